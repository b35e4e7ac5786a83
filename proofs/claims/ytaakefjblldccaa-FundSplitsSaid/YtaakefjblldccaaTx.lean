/- Regions that draw their order, operation by operation: what is kept may be told anew on the way; a result's cells that the region stores into. -/
import Derived.Test.YtaakefjblldccaaKb
import Derived.Deep.RegionHeld3
import Derived.Deep.DeepCutAuto
namespace Go.Proofs.Ytaakefjblldccaa
open Go.RowKit

/-- An operation of a region that draws its order, taken first, whatever its value. -/
theorem takeY {P : Program} {ops : Array Oper} {Q : Exit → Act → World → Prop} {md : Region.Mode} {S : World → Prop} {i : Nat} {oi : Oper} {fuel : Nat} {listed : Array Bool} {a : Act} {w : World} (hi : ops[i]? = some oi)
    (hs : Region.noSelect ops = true) (hf : Region.free md ops listed i = true) (hr : (Region.ready md ops listed).contains i = true)
    (hQ : ∀ v c a w, Q (.panic c) (a.put oi.dst v) w → Q (.panic c) a w) (hw : Region.wanted oi (yielded ops a.tmps) = true) (hS : S w)
    (h : ∃ v, (∀ W, S W → (execOp a.eval oi).run P W = .ok (.value v) W) ∧ wpAnyH P md ops Q S fuel (listed.setIfInBounds i true) (a.put oi.dst v) w) : wpAnyH P md ops Q S (fuel + 1) listed a w := by
  obtain ⟨v, h1, h2⟩ := h
  exact wpAnyH_take hi hs hf hr (hQ v) (Or.inl ⟨hw, h1⟩) hS h2

/-- What is kept may be told anew, more of it. -/
theorem anchor {P : Program} {ops : Array Oper} {Q : Exit → Act → World → Prop} {md : Region.Mode} {S S' : World → Prop} (h : ∀ W, S' W → S W) :
    ∀ (fuel : Nat) (listed : Array Bool) (a : Act) (w : World), wpAnyH P md ops Q S' fuel listed a w → wpAnyH P md ops Q S fuel listed a w
  | 0, _, _, _, hw => hw
  | fuel + 1, _, _, _, hw => ⟨hw.1, fun i hi => wpOp_mono (fun a' w' h' => ⟨h w' h'.1, anchor h fuel _ a' w' h'.2⟩) (hw.2 i hi)⟩

/-- What a region keeps that stores into the result's cells, the block B. -/
structure KR (B : Nat) (w W : World) : Prop where
  blk : ∀ k, k < w.heap.size → k ≠ B → W.heap[k]? = w.heap[k]?
  bel : Below B w W
  res : ∃ x y, W.heap[B]? = some (.cells #[x, y] 23 (0, 0))
theorem KR.lt {B : Nat} {w W : World} (h : KR B w W) : B < W.heap.size := by
  obtain ⟨x, y, h1⟩ := h.res
  exact (Array.getElem?_eq_some_iff.1 h1).1
theorem KR.start {w w1 : World} {x y : Value} (hb : Below (w.heap.size + 1) (w.alloc (.cells #[x, y] 23)) w1) : KR w.heap.size w1 w1 :=
  ⟨fun _ _ _ => rfl, Below.refl _ _, x, y, (hb.block _ (Nat.lt_succ_self _)).trans (World.alloc_heap_new w _)⟩
theorem KR.drew {B : Nat} {w W : World} (h : KR B w W) : KR B w W.drew := ⟨h.blk, h.bel.drew, h.res⟩
theorem KR.call {B : Nat} {w W w2 : World} (h : KR B w W) (hb : Below W.heap.size W w2) : KR B w w2 := by
  obtain ⟨x, y, h1⟩ := h.res
  refine ⟨fun k h2 h3 => (hb.block k (by have := h.bel.size; omega)).trans (h.blk k h2 h3), h.bel.trans (hb.mono (by have := h.lt; omega)), x, y, (hb.block _ h.lt).trans h1⟩
theorem KR.alloc {B : Nat} {w W : World} (h : KR B w W) (o : Obj) : KR B w (W.alloc o) := h.call ((Below.refl _ _).alloc (Nat.le_refl _) o)
theorem KR.self {B : Nat} {w W : World} (h : KR B w W) : KR B W W := ⟨fun _ _ _ => rfl, Below.refl _ _, h.res⟩
theorem KR.trans {B : Nat} {a b c : World} (h : KR B a b) (k : KR B b c) : KR B a c :=
  ⟨fun j h1 h2 => (k.blk j (by have := h.bel.size; omega) h2).trans (h.blk j h1 h2), h.bel.trans k.bel, k.res⟩
theorem KR.cell {B : Nat} {w W : World} (h : KR B w W) {b o : Nat} {v : Value} (hne : b ≠ B) (hc : w.cell? ⟨b, o, none⟩ = some v) : W.cell? ⟨b, o, none⟩ = some v :=
  (World.cell?_of_block (h.blk b (World.block_lt_of_cell? _ _ hc) hne)).trans hc
theorem KR.cells {B : Nat} {w W : World} (h : KR B w W) : ∃ x y, (W.cell? ⟨B, 0, none⟩ = some x ∧ W.cell? ⟨B, 1, none⟩ = some y) ∧ W.frozen? ⟨B, 0, none⟩ = false ∧ W.frozen? ⟨B, 1, none⟩ = false := by
  obtain ⟨x, y, h1⟩ := h.res
  exact ⟨x, y, ⟨by simp [World.cell?, h1], by simp [World.cell?, h1]⟩, by simp [World.frozen?, h1], by simp [World.frozen?, h1]⟩
theorem KR.store {B : Nat} {w W : World} (h : KR B w W) (a b : Value) : KR B w ((W.setCell ⟨B, 0, none⟩ a).setCell ⟨B, 1, none⟩ b) ∧ (((W.setCell ⟨B, 0, none⟩ a).setCell ⟨B, 1, none⟩ b).cell? ⟨B, 0, none⟩ = some a ∧ ((W.setCell ⟨B, 0, none⟩ a).setCell ⟨B, 1, none⟩ b).cell? ⟨B, 1, none⟩ = some b) := by
  obtain ⟨x, y, h1⟩ := h.res
  have h2 : (W.setCell ⟨B, 0, none⟩ a).heap[B]? = some (.cells #[a, y] 23 (0, 0)) := by
    obtain ⟨hlt, hk⟩ := Array.getElem?_eq_some_iff.1 h1
    show (W.heap.modify B _)[B]? = _
    rw [Array.getElem?_eq_getElem (by rw [Array.size_modify]; exact hlt), Array.getElem_modify_self, hk]
    rfl
  have h3 : ((W.setCell ⟨B, 0, none⟩ a).setCell ⟨B, 1, none⟩ b).heap[B]? = some (.cells #[a, b] 23 (0, 0)) := by
    obtain ⟨hlt, hk⟩ := Array.getElem?_eq_some_iff.1 h2
    show ((W.setCell ⟨B, 0, none⟩ a).heap.modify B _)[B]? = _
    rw [Array.getElem?_eq_getElem (by rw [Array.size_modify]; exact hlt), Array.getElem_modify_self, hk]
    rfl
  refine ⟨⟨fun k h4 h5 => ((Below.heap_setCell _ _ _ k h5).trans (Below.heap_setCell _ _ _ k h5)).trans (h.blk k h4 h5), (h.bel.setCell (p := ⟨B, 0, none⟩) (Nat.le_refl _) a).setCell (p := ⟨B, 1, none⟩) (Nat.le_refl _) b, a, b, h3⟩, by simp [World.cell?, h3], by simp [World.cell?, h3]⟩

end Go.Proofs.Ytaakefjblldccaa
