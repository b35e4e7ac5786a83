/- Texts of this claim, laid together: Lj. -/
import Derived.Test.YtdfkaijeppdhaaaGreatDoorZHq42
import Derived.DeepKeys4
import Derived.Test.YtdfkaijeppdhaaaGreatDoorZHq14

/- The law PostJoins. -/
namespace Go.Proofs.YtdfkaijeppdhaaaGreatDoor
open Go.RowKit Go.Shelf
theorem joinV_under {M : Nat → List Ent} {b o : Book} (hb : Under M b) (ho : Under M o) : joinV b o = (0, joinL b o) := by unfold joinV; rw [(join_under hb ho).1]
/-- A join that comes off. -/
theorem join_ok {base : Nat} {w : World} {l : List PB} (h : PsL base w l) {i j : Nat} (hi : i < l.length) (hj : j < l.length) {c : Book} (hc : joinV (atL l i).2.2 (atL l j).2.2 = (0, c)) :
    Calls Tryz.prog 22 #[.pointer (some ⟨(atL l i).1, 0, none⟩), .pointer (some ⟨(atL l j).1, 0, none⟩)] w fun e w' => e = .returned (.int .i64 0) ∧ PsL base w' (setL l i ((atL l i).1, (atL l i).2.1, c)) ∧ Kin base w w' := by
  refine (join_l h hi hj).mono ?_
  rw [hc]
  rintro e w' h9
  exact h9
/-- What stays of the rows of pointers. -/
def KN (base : Nat) (w W : World) : Prop := Kin base w W
theorem KN.refl (base : Nat) (w : World) : KN base w w := Kin.refl _ _
theorem KN.drew {base : Nat} {w W : World} (h : KN base w W) : KN base w W.drew := Kin.trans h (Kin.of_below (Below.refl _ _).drew)
theorem KN.call {base : Nat} {w W w2 : World} (h : KN base w W) (k : Kin base W w2) : KN base w w2 := Kin.trans h k
theorem PsL.drew {base : Nat} {w : World} {l : List PB} (h : PsL base w l) : PsL base w.drew l := h.below (Below.refl _ _).drew
/-- A row of pointers. -/
structure PtrsAt (w : World) (g c : Nat) (Q : Nat → Nat) : Prop where
  row : ∃ base, w.ownsRow base 33 1 (.slice (some ⟨g, 0, none⟩) 3 c) 3 (ptrsP Q 3)
theorem PtrsAt.cell {w : World} {g c : Nat} {Q : Nat → Nat} (h : PtrsAt w g c Q) {j : Nat} (hj : j < 3) : w.cell? ⟨g, j, none⟩ = some (.pointer (some ⟨Q j, 0, none⟩)) := by
  obtain ⟨base, h⟩ := h.row
  have := h.cellAt j (by omega)
  rw [this, ptrsP_at Q hj]
theorem PtrsAt.kin {base : Nat} {w w' : World} {g c : Nat} {Q : Nat → Nat} (h : PtrsAt w g c Q) (hk : Kin base w w') : PtrsAt w' g c Q := by
  obtain ⟨base, h⟩ := h.row
  exact ⟨base, hk.own h ptr_notT⟩
theorem PtrsAt.below {w w' : World} {g c : Nat} {Q : Nat → Nat} (h : PtrsAt w g c Q) (hb : Below w.heap.size w w') : PtrsAt w' g c Q := by
  obtain ⟨base, h⟩ := h.row
  exact ⟨base, own_below h hb⟩
theorem PtrsAt.hold {base : Nat} {w W : World} {g c : Nat} {Q : Nat → Nat} (h : PtrsAt w g c Q) (hk : KN base w W) {j : Nat} (hj : j < 3) : W.cell? ⟨g, j, none⟩ = some (.pointer (some ⟨Q j, 0, none⟩)) := (h.kin hk).cell hj

theorem slice_nil (W : World) (g c : Nat) : (binOp .eql 31 (.slice (some ⟨g, 0, none⟩) 3 c) (.slice none 0 0)).run Tryz.prog W = .ok (.bool false) W := by kernel_rfl
end Go.Proofs.YtdfkaijeppdhaaaGreatDoor
