/- Contract: the tree of the reference. -/
import Derived.Test.YtikcpfpeoofppaaTm
import Derived.Test.YtikcpfpeoofppaaNu
import Derived.Test.YtikcpfpeoofppaaDe
import Derived.Deep.AppendLies
import Derived.Deep.DeepCutAuto
namespace Go.Proofs.Ytikcpfpeoofppaa
open Go.RowKit

theorem KB.refl (w : World) : KB w w := Below.refl _ _
theorem KB.alloc {w W : World} (h : KB w W) (o : Obj) : KB w (W.alloc o) := Below.alloc h h.size o
theorem KB.drew {w W : World} (h : KB w W) : KB w W.drew := Below.drew h
theorem KB.drewN {w W : World} (h : KB w W) (n : Nat) : KB w (W.drewN n) := below_drewN h n
theorem heap_drewN (W : World) (n : Nat) : (W.drewN n).heap = W.heap := by simp

theorem Try.infoBool : (Try.prog.info? 4).map (fun i => (i.zero, i.size, i.bytes)) = some (some (.bool false), 1, 1) := by kernel_rfl

def zI (N : Nat) : Array Value := madeCells (Value.int .i64 0).cells (N * 1)
def zD (N : Nat) : Array Value := madeCells (Value.agg #[.int .i64 0, .int .i64 0, .int .i64 0]).cells (N * 3)
theorem make_ints (N : Nat) (hN : N ≤ 28561) (W : World) : (Instr.makeSlice 29 (.int .i64 (N : Int)) (.int .i64 (N : Int))).run Try.prog W = .ok (.slice (some ⟨W.heap.size, 0, none⟩) N N) (W.alloc (.cells (zI N) 3)) := by
  obtain ⟨i, h1, h2, h3, h4⟩ := info_parts Try.infoInt
  have := run_make (P := Try.prog) W 29 3 i (.int .i64 0) Try.underlying29 h1 h2 .i64 .i64 N N (by omega) (Int.le_refl _) (by rw [h4]; omega) (by omega)
  rw [h3] at this
  simpa [zI] using this
theorem make_deeds (N : Nat) (hN : N ≤ 28561) (W : World) : (Instr.makeSlice 22 (.int .i64 (N : Int)) (.int .i64 (N : Int))).run Try.prog W = .ok (.slice (some ⟨W.heap.size, 0, none⟩) N N) (W.alloc (.cells (zD N) 43)) := by
  obtain ⟨i, h1, h2, h3, h4⟩ := info_parts Try.infoDeed
  have := run_make (P := Try.prog) W 22 43 i (.agg #[.int .i64 0, .int .i64 0, .int .i64 0]) Try.underlying22 h1 h2 .i64 .i64 N N (by omega) (Int.le_refl _) (by rw [h4]; omega) (by omega)
  rw [h3] at this
  simpa [zD] using this

theorem zI_vals (N : Nat) : (zI N).toList = (List.replicate N (0 : Int)).map (Value.int .i64) := by
  unfold zI madeCells
  apply List.ext_getElem
  · simp
  · intro i h1 h2
    simp [Value.cells, Nat.mod_one]
theorem zB_vals (N : Nat) : (madeCells (Value.bool false).cells (N * 1)).toList = (List.replicate N false).map Value.bool := by
  unfold madeCells
  apply List.ext_getElem
  · simp
  · intro i h1 h2
    simp [Value.cells, Nat.mod_one]
theorem flatD_zeros : ∀ N, flatD (List.replicate N noDeed) = List.replicate (N * 3) (.int .i64 0)
  | 0 => rfl
  | N + 1 => by
    have ih := flatD_zeros N
    rw [List.replicate_succ, show flatD (noDeed :: List.replicate N noDeed) = deedC noDeed ++ flatD (List.replicate N noDeed) by simp [flatD], ih, show (N + 1) * 3 = 3 + N * 3 by omega, ← List.replicate_append_replicate]
    rfl
theorem zD_vals (N : Nat) : (zD N).toList = flatD (List.replicate N noDeed) := by
  rw [flatD_zeros]
  unfold zD madeCells
  apply List.ext_getElem
  · simp
  · intro i h1 h2
    have h3 : i % 3 = 0 ∨ i % 3 = 1 ∨ i % 3 = 2 := by omega
    rcases h3 with h3 | h3 | h3 <;> simp [Value.cells, h3]

theorem own_lit {W : World} {B g N sz : Nat} {e : TypeId} {cs : Array Value} (h : W.heap[g]? = some (.cells cs e (0, 0))) (hB : B ≤ g) (hs : cs.size = N * sz) (hN : N ≤ maxLen) : W.ownsRow B e sz (.slice (some ⟨g, 0, none⟩) N N) N cs.toList :=
  ⟨by simp [hs], .inr ⟨g, N, cs, rfl, hB, h, Nat.le_refl _, hN, hs, by rw [List.take_of_length_le (by simp [hs])]⟩⟩

/-- What lies when the tree has been made. -/
structure Made (n0 Bx go gf gb N : Nat) (x : Int) (W : World) : Prop where
  bx : W.heap[Bx]? = some (.cells #[.slice (some ⟨go, 0, none⟩) 1 1, .slice (some ⟨gf, 0, none⟩) N N, .slice (some ⟨gb, 0, none⟩) N N] 91 (0, 0))
  ho : W.heap[go]? = some (.cells #[.int .i64 x] 3 (0, 0))
  hf : W.heap[gf]? = some (.cells (zI N) 3 (0, 0))
  hb : W.heap[gb]? = some (.cells (zD N) 43 (0, 0))
  ne : go ≠ gf
  le : n0 ≤ Bx ∧ n0 ≤ go ∧ n0 ≤ gf ∧ n0 ≤ gb
theorem Made.tree {n0 Bx go gf gb N : Nat} {x : Int} {W : World} (h : Made n0 Bx go gf gb N x W) (hN : N ≤ 28561) : TreeM n0 Bx go 1 gf gb N [x] (List.replicate N 0) (List.replicate N noDeed) W := by
  refine ⟨h.bx, ?_, ?_, ?_, h.ne, h.le.1⟩
  · have := own_lit (B := n0) (N := 1) (sz := 1) h.ho h.le.2.1 (by simp) (by unfold maxLen; omega)
    simpa using this
  · rw [← zI_vals]
    exact own_lit h.hf h.le.2.2.1 (by simp [zI, madeCells]) (by unfold maxLen; omega)
  · rw [← zD_vals]
    exact own_lit h.hb h.le.2.2.2 (by simp [zD, madeCells]) (by unfold maxLen; omega)

/-- The tree, with what has been seen, and all deeds. -/
structure Grows (n0 Bx go cap gf gb gs ga capa N M : Nat) (o f : List Int) (b : List Deed) (s : List Bool) (al : List Deed) (W : World) : Prop where
  tree : TreeM n0 Bx go cap gf gb N o f b W
  seen : W.ownsRow n0 4 1 (.slice (some ⟨gs, 0, none⟩) N N) N (s.map Value.bool)
  all : W.ownsRow n0 43 3 (.slice (some ⟨ga, 0, none⟩) M capa) M (flatD al)
  na : ga ≠ gb

theorem Grows.nes {n0 Bx go cap gf gb gs ga capa N M : Nat} {o f : List Int} {b : List Deed} {s : List Bool} {al : List Deed} {W : World} (h : Grows n0 Bx go cap gf gb gs ga capa N M o f b s al W) :
    gs ≠ Bx ∧ gs ≠ go ∧ gs ≠ gf ∧ gs ≠ gb ∧ gs ≠ ga ∧ ga ≠ Bx ∧ ga ≠ go ∧ ga ≠ gf :=
  ⟨row_ne_box h.seen h.tree.bx (by decide), row_ne h.seen h.tree.ro (by decide), row_ne h.seen h.tree.rf (by decide), row_ne h.seen h.tree.rb (by decide), row_ne h.seen h.all (by decide), row_ne_box h.all h.tree.bx (by decide), row_ne h.all h.tree.ro (by decide), row_ne h.all h.tree.rf (by decide)⟩
theorem Grows.lt {n0 Bx go cap gf gb gs ga capa N M : Nat} {o f : List Int} {b : List Deed} {s : List Bool} {al : List Deed} {W : World} (h : Grows n0 Bx go cap gf gb gs ga capa N M o f b s al W) : gs < W.heap.size ∧ ga < W.heap.size ∧ n0 ≤ gs := by
  obtain ⟨_, h1, h2⟩ := row_block h.seen
  obtain ⟨_, h3, h4⟩ := row_block h.all
  exact ⟨(Array.getElem?_eq_some_iff.1 h2).1, (Array.getElem?_eq_some_iff.1 h4).1, h1⟩
theorem Grows.below {n0 Bx go cap gf gb gs ga capa N M : Nat} {o f : List Int} {b : List Deed} {s : List Bool} {al : List Deed} {W W' : World} (h : Grows n0 Bx go cap gf gb gs ga capa N M o f b s al W) (hb : Below W.heap.size W W') : Grows n0 Bx go cap gf gb gs ga capa N M o f b s al W' :=
  ⟨h.tree.below hb, row_keep h.seen (hb.block _ h.lt.1), row_keep h.all (hb.block _ h.lt.2.1), h.na⟩

/-- The cells that a round reads. -/
structure GF (Bx go cap gf gb gs ga N n : Nat) (o f : List Int) (s : List Bool) (i k : Nat) (sv : Bool) (d : Deed) (W : World) : Prop where
  b0 : W.cell? ⟨Bx, 0, none⟩ = some (.slice (some ⟨go, 0, none⟩) o.length cap)
  b1 : W.cell? ⟨Bx, 1, none⟩ = some (.slice (some ⟨gf, 0, none⟩) N N)
  b2 : W.cell? ⟨Bx, 2, none⟩ = some (.slice (some ⟨gb, 0, none⟩) N N)
  fz : W.frozen? ⟨Bx, 0, none⟩ = false
  oi : W.cell? ⟨go, i, none⟩ = some (.int .i64 (o.getD i 0))
  fi : W.cell? ⟨gf, n, none⟩ = some (.int .i64 (f.getD n 0))
  ff : W.frozen? ⟨gf, n, none⟩ = false
  d0 : ∃ x0 x1 x2, W.cell? ⟨gb, n * 3, none⟩ = some (.int .i64 x0) ∧ W.cell? ⟨gb, n * 3 + 1, none⟩ = some (.int .i64 x1) ∧ W.cell? ⟨gb, n * 3 + 2, none⟩ = some (.int .i64 x2)
  fd : W.frozen? ⟨gb, n * 3, none⟩ = false ∧ W.frozen? ⟨gb, n * 3 + 1, none⟩ = false ∧ W.frozen? ⟨gb, n * 3 + 2, none⟩ = false
  sn : W.cell? ⟨gs, n, none⟩ = some (.bool (s.getD n false))
  fs : W.frozen? ⟨gs, n, none⟩ = false
  a0 : W.cell? ⟨ga, k * 3, none⟩ = some (.int .i64 d.1)
  a1 : W.cell? ⟨ga, k * 3 + 1, none⟩ = some (.int .i64 d.2.1)
  a2 : W.cell? ⟨ga, k * 3 + 2, none⟩ = some (.int .i64 d.2.2)
theorem Grows.facts {n0 Bx go cap gf gb gs ga capa N M : Nat} {o f : List Int} {b : List Deed} {s : List Bool} {al : List Deed} {W : World} (h : Grows n0 Bx go cap gf gb gs ga capa N M o f b s al W)
    (lf : f.length = N) (lb : b.length = N) (ls : s.length = N) (la : al.length = M) {i k n : Nat} (hi : i < o.length) (hk : k < M) (hn : n < N) : GF Bx go cap gf gb gs ga N n o f s i k (s.getD n false) (al.getD k noDeed) W := by
  obtain ⟨h1, h2, h3, h4⟩ := h.tree.cells
  obtain ⟨h5, h6⟩ := h.tree.frm lf hn
  obtain ⟨⟨h7, h8, h9⟩, h10⟩ := h.tree.deed lb hn
  obtain ⟨k1, k2, k3⟩ := flatD_at al k (by omega)
  refine ⟨h1, h2, h3, h4 0, h.tree.ord hi, h5, h6, ⟨_, _, _, h7, h8, h9⟩, ⟨h10 _, h10 _, h10 _⟩, ?_, h.seen.frozenAt n, (h.all.cellAt _ (by omega)).trans k1, (h.all.cellAt _ (by omega)).trans k2, (h.all.cellAt _ (by omega)).trans k3⟩
  rw [h.seen.cellAt n (by omega)]
  simp [List.getD_eq_getElem?_getD, ls, hn]

theorem Grows.setSeen {n0 Bx go cap gf gb gs ga capa N M : Nat} {o f : List Int} {b : List Deed} {s : List Bool} {al : List Deed} {W : World} (h : Grows n0 Bx go cap gf gb gs ga capa N M o f b s al W) (n : Nat) :
    Grows n0 Bx go cap gf gb gs ga capa N M o f b (s.set n true) al (W.setCell ⟨gs, n, none⟩ (.bool true)) := by
  obtain ⟨h1, h2, h3, h4, h5, h6, h7, h8⟩ := h.nes
  have hk : ∀ k, k ≠ gs → (W.setCell ⟨gs, n, none⟩ (.bool true)).heap[k]? = W.heap[k]? := fun k hk => Below.heap_setCell _ _ _ k hk
  refine ⟨h.tree.block (fun k hc => hk k (by rcases hc with rfl | rfl | rfl | rfl <;> omega)), ?_, row_keep h.all (hk _ (Ne.symm h5)), h.na⟩
  rw [List.map_set]
  exact (h.seen.stored n (.bool true)).1
theorem Grows.setFrom {n0 Bx go cap gf gb gs ga capa N M : Nat} {o f : List Int} {b : List Deed} {s : List Bool} {al : List Deed} {W : World} (h : Grows n0 Bx go cap gf gb gs ga capa N M o f b s al W) (n : Nat) (x : Int) :
    Grows n0 Bx go cap gf gb gs ga capa N M o (f.set n x) b s al (W.setCell ⟨gf, n, none⟩ (.int .i64 x)) := by
  obtain ⟨h1, h2, h3, h4, h5, h6, h7, h8⟩ := h.nes
  have hk : ∀ k, k ≠ gf → (W.setCell ⟨gf, n, none⟩ (.int .i64 x)).heap[k]? = W.heap[k]? := fun k hk => Below.heap_setCell _ _ _ k hk
  exact ⟨h.tree.setFrom n x, row_keep h.seen (hk _ h3), row_keep h.all (hk _ h8), h.na⟩
theorem Grows.setBy {n0 Bx go cap gf gb gs ga capa N M : Nat} {o f : List Int} {b : List Deed} {s : List Bool} {al : List Deed} {W : World} (h : Grows n0 Bx go cap gf gb gs ga capa N M o f b s al W) (n : Nat) (d : Deed) (hn : n < b.length) :
    Grows n0 Bx go cap gf gb gs ga capa N M o f (b.set n d) s al (((W.setCell ⟨gb, n * 3, none⟩ (.int .i64 d.1)).setCell ⟨gb, n * 3 + 1, none⟩ (.int .i64 d.2.1)).setCell ⟨gb, n * 3 + 2, none⟩ (.int .i64 d.2.2)) := by
  obtain ⟨h1, h2, h3, h4, h5, h6, h7, h8⟩ := h.nes
  have hk : ∀ k, k ≠ gb → (((W.setCell ⟨gb, n * 3, none⟩ (.int .i64 d.1)).setCell ⟨gb, n * 3 + 1, none⟩ (.int .i64 d.2.1)).setCell ⟨gb, n * 3 + 2, none⟩ (.int .i64 d.2.2)).heap[k]? = W.heap[k]? := fun k hk =>
    (Below.heap_setCell _ _ _ k hk).trans ((Below.heap_setCell _ _ _ k hk).trans (Below.heap_setCell _ _ _ k hk))
  exact ⟨h.tree.setBy n d hn, row_keep h.seen (hk _ h4), row_keep h.all (hk _ h.na), h.na⟩
theorem Grows.app {n0 Bx go cap gf gb gs ga capa N M g' cap' : Nat} {o f : List Int} {b : List Deed} {s : List Bool} {al : List Deed} {W w1 : World} {tmp : Obj} {x : Int} (h : Grows n0 Bx go cap gf gb gs ga capa N M o f b s al W)
    (hown : w1.ownsRow n0 3 1 (.slice (some ⟨g', 0, none⟩) (o.length + 1) cap') (o.length + 1) (o.map (Value.int .i64) ++ [.int .i64 x])) (hg : (W.alloc tmp).grownBy w1 (some go)) (hat : some go = some g' ∨ g' = W.heap.size + 1) :
    Grows n0 Bx g' cap' gf gb gs ga capa N M (o ++ [x]) f b s al (w1.setCell ⟨Bx, 0, none⟩ (.slice (some ⟨g', 0, none⟩) (o.length + 1) cap')) := by
  obtain ⟨h1, h2, h3, h4, h5, h6, h7, h8⟩ := h.nes
  obtain ⟨k1, k2, k3, k4, k5⟩ := h.tree.app hown hg hat
  exact ⟨k1, row_keep h.seen (k2 _ h.lt.1 h2 h1), row_keep h.all (k2 _ h.lt.2.1 h7 h6), h.na⟩

/-- The levels of the round: they lie apart. -/
structure NowAt (n0 gv go gf m : Nat) (x : List Int) (W : World) : Prop where
  row : W.ownsRow n0 3 1 (.slice (some ⟨gv, 0, none⟩) m m) m (x.map (Value.int .i64))
  n1 : gv ≠ go
  n2 : gv ≠ gf
theorem NowAt.keep {n0 gv go go' gf m : Nat} {x : List Int} {W W' : World} (h : NowAt n0 gv go gf m x W) (hk : W'.heap[gv]? = W.heap[gv]?) (hg : go' = go ∨ W.heap.size ≤ go') : NowAt n0 gv go' gf m x W' := by
  obtain ⟨_, _, h1⟩ := row_block h.row
  have h2 := (Array.getElem?_eq_some_iff.1 h1).1
  refine ⟨row_keep h.row hk, ?_, h.n2⟩
  rcases hg with rfl | hg
  · exact h.n1
  · omega
theorem NowAt.lt {n0 gv go gf m : Nat} {x : List Int} {W : World} (h : NowAt n0 gv go gf m x W) : gv < W.heap.size := by
  obtain ⟨_, _, h1⟩ := row_block h.row
  exact (Array.getElem?_eq_some_iff.1 h1).1

def GivesT (t l : List Int) (w : World) (e : Ending) (w' : World) : Prop := ∃ Bx go cap gf gb, e = .returned (.pointer (some ⟨Bx, 0, none⟩)) ∧ TreeM w.heap.size Bx go cap gf gb (sizeR t) (ordL t (full t l)) (fromL t (full t l)) (byL t (full t l)) w' ∧ Below w.heap.size w w'

end Go.Proofs.Ytikcpfpeoofppaa
