/- How lists of numbers, and lists of such lists, lie in memory: plain predicates on worlds, and that they stay when only new memory is made. -/
import Derived.WalkKit
import Derived.WalkSpells
import Derived.WalkLawsBesides
import Derived.Lib.Hide
namespace Go.Proofs.Ytikcpfpeoofppaa
open Go.RowKit

/-- A slice value that reads as a list of ints. -/
def IntsAt (w : World) (v : Value) (l : List Int) : Prop :=
  ∃ (a : Option Addr) (cap : Nat), v = .slice a l.length cap ∧ l.length ≤ 9223372036854775807 ∧
    (0 < l.length → ∃ b off, a = some ⟨b, off, none⟩ ∧ ∀ j, j < l.length → w.cell? ⟨b, off + j, none⟩ = some (.int .i64 (l.getD j 0)))

/-- A slice value that reads as a list of lists of ints. -/
def RowsAt (w : World) (v : Value) (t : List (List Int)) : Prop :=
  ∃ (a : Option Addr) (cap : Nat), v = .slice a t.length cap ∧ t.length ≤ 9223372036854775807 ∧
    (0 < t.length → ∃ b off, a = some ⟨b, off, none⟩ ∧ ∀ i, i < t.length → ∃ x, w.cell? ⟨b, off + i, none⟩ = some x ∧ IntsAt w x (t.getD i []))

theorem keep_cell {w w' : World} (hb : Below w.heap.size w w') {a : Addr} {v : Value} (h : w.cell? a = some v) : w'.cell? a = some v :=
  (hb.cell (World.block_lt_of_cell? _ _ h)).trans h

theorem IntsAt.below {w w' : World} {v : Value} {l : List Int} (h : IntsAt w v l) (hb : Below w.heap.size w w') : IntsAt w' v l := by
  obtain ⟨a, cap, rfl, hl, h⟩ := h
  refine ⟨a, cap, rfl, hl, fun h0 => ?_⟩
  obtain ⟨b, off, ha, hc⟩ := h h0
  exact ⟨b, off, ha, fun j hj => keep_cell hb (hc j hj)⟩

theorem RowsAt.below {w w' : World} {v : Value} {t : List (List Int)} (h : RowsAt w v t) (hb : Below w.heap.size w w') : RowsAt w' v t := by
  obtain ⟨a, cap, rfl, hl, h⟩ := h
  refine ⟨a, cap, rfl, hl, fun h0 => ?_⟩
  obtain ⟨b, off, ha, hc⟩ := h h0
  refine ⟨b, off, ha, fun i hi => ?_⟩
  obtain ⟨x, hx, hi⟩ := hc i hi
  exact ⟨x, keep_cell hb hx, hi.below hb⟩

theorem below_trans {a b c : World} (h : Below a.heap.size a b) (k : Below b.heap.size b c) : Below a.heap.size a c := h.trans (k.mono h.size)

theorem IntsAt.drewN {w : World} {v : Value} {l : List Int} (h : IntsAt w v l) (n : Nat) : IntsAt (w.drewN n) v l := h.below (below_drewN (Below.refl _ _) n)
theorem RowsAt.drewN {w : World} {v : Value} {t : List (List Int)} (h : RowsAt w v t) (n : Nat) : RowsAt (w.drewN n) v t := h.below (below_drewN (Below.refl _ _) n)


/-- What an owned row of one-cell elements holds. -/
theorem own_cells {W : World} {base : Nat} {e : TypeId} {v : Value} {n : Nat} {xs : List Value} (h : W.ownsRow base e 1 v n xs) :
    ∃ (a : Option Addr) (cap : Nat), v = .slice a n cap ∧ (0 < n → ∃ b off, a = some ⟨b, off, none⟩ ∧ ∀ j, j < n → W.cell? ⟨b, off + j, none⟩ = some (xs.getD j undef)) := by
  have hx := h.1
  rcases h.2 with ⟨rfl, rfl⟩ | ⟨g, cap, cur, rfl, hrest⟩
  · exact ⟨none, 0, rfl, fun h0 => by omega⟩
  · refine ⟨some ⟨g, 0, none⟩, cap, rfl, fun h0 => ⟨g, 0, rfl, fun j hj => ?_⟩⟩
    rw [Nat.zero_add, h.cellAt j (by omega), List.getD_eq_getElem?_getD, List.getElem?_eq_getElem (by omega)]
    rfl

theorem own_ints {W : World} {base : Nat} {e : TypeId} {v : Value} {l : List Int} (h : W.ownsRow base e 1 v l.length (l.map (Value.int .i64))) (hl : l.length ≤ 9223372036854775807) : IntsAt W v l := by
  obtain ⟨a, cap, rfl, hq⟩ := own_cells h
  refine ⟨a, cap, rfl, hl, fun h0 => ?_⟩
  obtain ⟨b, off, rfl, hc⟩ := hq h0
  clear hq
  refine ⟨b, off, rfl, fun j hj => ?_⟩
  rw [hc j hj]
  simp [List.getD_eq_getElem?_getD, hj]

theorem own_rows {W : World} {base : Nat} {e : TypeId} {v : Value} {t : List (List Int)} {xs : List Value} (h : W.ownsRow base e 1 v t.length xs) (hl : t.length ≤ 9223372036854775807)
    (hx : ∀ i, i < t.length → IntsAt W (xs.getD i undef) (t.getD i [])) : RowsAt W v t := by
  obtain ⟨a, cap, rfl, hq⟩ := own_cells h
  refine ⟨a, cap, rfl, hl, fun h0 => ?_⟩
  obtain ⟨b, off, rfl, hc⟩ := hq h0
  clear hq
  exact ⟨b, off, rfl, fun j hj => ⟨_, hc j hj, hx j hj⟩⟩

theorem below_append {B : Nat} {w wr w1 : World} {e : TypeId} {size : Nat} {v : Value} {n : Nat} {xs : List Value} {o : Obj} (hB : Below B w wr) (hs : B ≤ wr.heap.size) (hown : wr.ownsRow B e size v n xs)
    (hg : (wr.alloc o).grownBy w1 v.ownBlock) : Below B w w1 :=
  (hB.alloc hs o).grown hg (by simp; omega) (fun k e => (hown.lt k e).1)

theorem getD_snoc_lt {α : Type} (xs : List α) (x d : α) {i : Nat} (h : i < xs.length) : (xs ++ [x]).getD i d = xs.getD i d := by
  simp [List.getD_eq_getElem?_getD, List.getElem?_append_left h]
theorem getD_snoc_eq {α : Type} (xs : List α) (x d : α) : (xs ++ [x]).getD xs.length d = x := by
  simp [List.getD_eq_getElem?_getD]

/-- A deed as a triple: what is done, from, to. -/
abbrev Deed := Int × Int × Int
def deedV (d : Deed) : Value := .agg #[.int .i64 d.1, .int .i64 d.2.1, .int .i64 d.2.2]
def deedC (d : Deed) : List Value := [.int .i64 d.1, .int .i64 d.2.1, .int .i64 d.2.2]
def flatD (l : List Deed) : List Value := l.flatMap deedC
def noDeed : Deed := (0, 0, 0)

theorem flatD_length (l : List Deed) : (flatD l).length = l.length * 3 := by
  induction l with
  | nil => rfl
  | cons d l ih => simp only [flatD, List.flatMap_cons, List.length_append] at ih ⊢; rw [ih]; simp [deedC]; omega

theorem flatD_append (l m : List Deed) : flatD (l ++ m) = flatD l ++ flatD m := by simp [flatD]

theorem flatD_at : ∀ (l : List Deed) (j : Nat), j < l.length → (flatD l)[j * 3]? = some (.int .i64 (l.getD j noDeed).1) ∧ (flatD l)[j * 3 + 1]? = some (.int .i64 (l.getD j noDeed).2.1) ∧ (flatD l)[j * 3 + 2]? = some (.int .i64 (l.getD j noDeed).2.2)
  | d :: l, 0, _ => by simp [flatD, deedC]
  | d :: l, j + 1, h => by
    have ih := flatD_at l j (by simpa using h)
    have e : ∀ i, (flatD (d :: l))[(j + 1) * 3 + i]? = (flatD l)[j * 3 + i]? := fun i => by
      rw [show (j + 1) * 3 + i = (j * 3 + i) + 3 by omega]
      simp [flatD, deedC]
    have e0 := e 0
    simp only [Nat.add_zero] at e0
    rw [e0, e 1, e 2]
    simpa using ih

/-- A slice value that reads as a list of deeds. -/
def DeedsAt (w : World) (v : Value) (l : List Deed) : Prop :=
  ∃ (a : Option Addr) (cap : Nat), v = .slice a l.length cap ∧ l.length ≤ 9223372036854775807 ∧
    (0 < l.length → ∃ b off, a = some ⟨b, off, none⟩ ∧ ∀ j, j < l.length → w.cell? ⟨b, off + j * 3, none⟩ = some (.int .i64 (l.getD j noDeed).1) ∧
      w.cell? ⟨b, off + j * 3 + 1, none⟩ = some (.int .i64 (l.getD j noDeed).2.1) ∧ w.cell? ⟨b, off + j * 3 + 2, none⟩ = some (.int .i64 (l.getD j noDeed).2.2))

theorem DeedsAt.below {w w' : World} {v : Value} {l : List Deed} (h : DeedsAt w v l) (hb : Below w.heap.size w w') : DeedsAt w' v l := by
  obtain ⟨a, cap, rfl, hl, h⟩ := h
  refine ⟨a, cap, rfl, hl, fun h0 => ?_⟩
  obtain ⟨b, off, ha, hc⟩ := h h0
  exact ⟨b, off, ha, fun j hj => ⟨keep_cell hb (hc j hj).1, keep_cell hb (hc j hj).2.1, keep_cell hb (hc j hj).2.2⟩⟩

theorem deeds_nil (w : World) : DeedsAt w (.slice none 0 0) [] := ⟨none, 0, rfl, by simp, fun h => by simp at h⟩

theorem own_cells3 {W : World} {base : Nat} {e : TypeId} {v : Value} {n : Nat} {xs : List Value} (h : W.ownsRow base e 3 v n xs) :
    ∃ (a : Option Addr) (cap : Nat), v = .slice a n cap ∧ (0 < n → ∃ b, a = some ⟨b, 0, none⟩ ∧ ∀ j, j < n * 3 → W.cell? ⟨b, j, none⟩ = xs[j]?) := by
  rcases h.2 with ⟨rfl, rfl⟩ | ⟨g, cap, cur, rfl, hrest⟩
  · exact ⟨none, 0, rfl, fun h0 => by omega⟩
  · exact ⟨some ⟨g, 0, none⟩, cap, rfl, fun h0 => ⟨g, rfl, fun j hj => h.cellAt j hj⟩⟩

theorem own_deeds {W : World} {base : Nat} {e : TypeId} {v : Value} {l : List Deed} (h : W.ownsRow base e 3 v l.length (flatD l)) (hl : l.length ≤ 9223372036854775807) : DeedsAt W v l := by
  obtain ⟨a, cap, rfl, hq⟩ := own_cells3 h
  refine ⟨a, cap, rfl, hl, fun h0 => ?_⟩
  obtain ⟨b, rfl, hc⟩ := hq h0
  clear hq
  refine ⟨b, 0, rfl, fun j hj => ?_⟩
  obtain ⟨h1, h2, h3⟩ := flatD_at l j hj
  simp only [Nat.zero_add]
  exact ⟨(hc _ (by omega)).trans h1, (hc _ (by omega)).trans h2, (hc _ (by omega)).trans h3⟩

theorem ints_cell {w : World} {v : Value} {l : List Int} (h : IntsAt w v l) (h0 : 0 < l.length) :
    ∃ b off cap, v = .slice (some ⟨b, off, none⟩) l.length cap ∧ ∀ j, j < l.length → w.cell? ⟨b, off + j, none⟩ = some (.int .i64 (l.getD j 0)) := by
  obtain ⟨a, cap, rfl, _, hq⟩ := h
  obtain ⟨b, off, rfl, hc⟩ := hq h0
  exact ⟨b, off, cap, rfl, hc⟩

end Go.Proofs.Ytikcpfpeoofppaa
