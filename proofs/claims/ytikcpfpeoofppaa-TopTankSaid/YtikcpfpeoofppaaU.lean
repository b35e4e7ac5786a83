/- Contracts: what is filled in and emptied out by a deed (the program). -/
import Derived.Test.YtikcpfpeoofppaaQ
import Derived.Test.YtikcpfpeoofppaaV
namespace Go.Proofs.Ytikcpfpeoofppaa
open Go.RowKit

/-- A number in a box. -/
structure NumAt (w : World) (B : Nat) (x : Int) : Prop where
  blk : w.heap[B]? = some (Obj.cells #[.int .i64 x] 3 (0, 0))
theorem NumAt.cell {w : World} {B : Nat} {x : Int} (h : NumAt w B x) : w.cell? ⟨B, 0, none⟩ = some (.int .i64 x) := by simp [World.cell?, h.blk]
theorem NumAt.frozen {w : World} {B : Nat} {x : Int} (h : NumAt w B x) : w.frozen? ⟨B, 0, none⟩ = false := frozenA h.blk 0
theorem NumAt.keep {w w' : World} {B : Nat} {x : Int} (h : NumAt w B x) (hb : Below w.heap.size w w') : NumAt w' B x := ⟨(hb.block _ (Array.getElem?_eq_some_iff.1 h.blk).1).trans h.blk⟩
theorem NumAt.set {w : World} {B : Nat} {x : Int} (h : NumAt w B x) (y : Int) : NumAt (w.setCell ⟨B, 0, none⟩ (.int .i64 y)) B y := ⟨by have := heap_set (k := 0) h.blk (.int .i64 y); simpa using this⟩
theorem NumAt.other {w : World} {B B' : Nat} {x : Int} (h : NumAt w B x) (hne : B ≠ B') (v : Value) : NumAt (w.setCell ⟨B', 0, none⟩ v) B x := ⟨(Below.heap_setCell _ _ _ _ hne).trans h.blk⟩
theorem NumAt.drewN {w : World} {B : Nat} {x : Int} (h : NumAt w B x) (n : Nat) : NumAt (w.drewN n) B x := ⟨h.blk⟩
theorem NumAt.lt {w : World} {B : Nat} {x : Int} (h : NumAt w B x) : B < w.heap.size := (Array.getElem?_eq_some_iff.1 h.blk).1

theorem Kx.setE {E : Nat → Prop} {w w' : World} (h : Kx E w w') {p : Addr} (hp : E p.block) (u : Value) : Kx E w (w'.setCell p u) := by
  have hb : Below 0 w' (w'.setCell p u) := (Below.refl _ _).setCell (Nat.zero_le _) u
  exact ⟨hb.os.trans h.os, hb.tape.trans h.tape, hb.output.trans h.output, Nat.le_trans h.size hb.size, fun k hk he => (Below.heap_setCell _ _ _ k (fun e => he (by rw [e]; exact hp))).trans (h.block k hk he)⟩

def Two (B6 B7 : Nat) (k : Nat) : Prop := k = B6 ∨ k = B7




set_option maxHeartbeats 1000000 in
theorem water_fill0 (B6 B7 : Nat) (x y p0 p1 p2 p3 q0 q1 q2 q3 : Int) (w : World) (h6 : NumAt w B6 x) (h7 : NumAt w B7 y) (hne : B6 ≠ B7) (hx : 0 ≤ x ∧ x ≤ 100000) (hp : 0 ≤ p0 ∧ p0 ≤ 12) (hq : 0 ≤ q0 ∧ q0 ≤ 12) :
    Calls Try.prog 79 #[.agg #[.int .i64 1, .int .i64 0, .int .i64 0], .agg #[.int .i64 p0, .int .i64 p1, .int .i64 p2, .int .i64 p3], .agg #[.int .i64 q0, .int .i64 q1, .int .i64 q2, .int .i64 q3], .pointer (some ⟨B6, 0, none⟩), .pointer (some ⟨B7, 0, none⟩)] w fun e w' => (∃ u, e = .returned u) ∧ NumAt w' B6 (x + (q0 - p0)) ∧ NumAt w' B7 y ∧ Kx (Two B6 B7) w w' := by
  have hw1 := (Below.refl w.heap.size w).alloc (Nat.le_refl _) (.cells #[.int .i64 1, .int .i64 0, .int .i64 0] 43)
  have hw2 := hw1.alloc (by simp) (.cells #[.int .i64 p0, .int .i64 p1, .int .i64 p2, .int .i64 p3] 66)
  have hw3 := hw2.alloc (by simp; omega) (.cells #[.int .i64 q0, .int .i64 q1, .int .i64 q2, .int .i64 q3] 66)
  have h6' := h6.keep hw3
  have h7' := h7.keep hw3
  have c6 := h6'.cell
  have c7 := h7'.cell
  have f6 := h6'.frozen
  have f7 := h7'.frozen
  have l6 := h6.lt
  have l7 := h7.lt
  go_enter Try.func79, Try.ntmps79
  go_wp2
  go_region
  all_goals go_wp2
  go_end0
  exact ⟨⟨_, rfl⟩, ⟨(h6'.set _).blk⟩, ⟨(h7'.other (Ne.symm hne) _).blk⟩, ((Kx.of_below hw3).setE (.inl rfl) _).drew⟩
set_option maxHeartbeats 1000000 in
theorem water_fill1 (B6 B7 : Nat) (x y p0 p1 p2 p3 q0 q1 q2 q3 : Int) (w : World) (h6 : NumAt w B6 x) (h7 : NumAt w B7 y) (hne : B6 ≠ B7) (hx : 0 ≤ x ∧ x ≤ 100000) (hp : 0 ≤ p1 ∧ p1 ≤ 12) (hq : 0 ≤ q1 ∧ q1 ≤ 12) :
    Calls Try.prog 79 #[.agg #[.int .i64 1, .int .i64 0, .int .i64 1], .agg #[.int .i64 p0, .int .i64 p1, .int .i64 p2, .int .i64 p3], .agg #[.int .i64 q0, .int .i64 q1, .int .i64 q2, .int .i64 q3], .pointer (some ⟨B6, 0, none⟩), .pointer (some ⟨B7, 0, none⟩)] w fun e w' => (∃ u, e = .returned u) ∧ NumAt w' B6 (x + (q1 - p1)) ∧ NumAt w' B7 y ∧ Kx (Two B6 B7) w w' := by
  have hw1 := (Below.refl w.heap.size w).alloc (Nat.le_refl _) (.cells #[.int .i64 1, .int .i64 0, .int .i64 1] 43)
  have hw2 := hw1.alloc (by simp) (.cells #[.int .i64 p0, .int .i64 p1, .int .i64 p2, .int .i64 p3] 66)
  have hw3 := hw2.alloc (by simp; omega) (.cells #[.int .i64 q0, .int .i64 q1, .int .i64 q2, .int .i64 q3] 66)
  have h6' := h6.keep hw3
  have h7' := h7.keep hw3
  have c6 := h6'.cell
  have c7 := h7'.cell
  have f6 := h6'.frozen
  have f7 := h7'.frozen
  have l6 := h6.lt
  have l7 := h7.lt
  go_enter Try.func79, Try.ntmps79
  go_wp2
  go_region
  all_goals go_wp2
  go_end0
  exact ⟨⟨_, rfl⟩, ⟨(h6'.set _).blk⟩, ⟨(h7'.other (Ne.symm hne) _).blk⟩, ((Kx.of_below hw3).setE (.inl rfl) _).drew⟩
set_option maxHeartbeats 1000000 in
theorem water_fill2 (B6 B7 : Nat) (x y p0 p1 p2 p3 q0 q1 q2 q3 : Int) (w : World) (h6 : NumAt w B6 x) (h7 : NumAt w B7 y) (hne : B6 ≠ B7) (hx : 0 ≤ x ∧ x ≤ 100000) (hp : 0 ≤ p2 ∧ p2 ≤ 12) (hq : 0 ≤ q2 ∧ q2 ≤ 12) :
    Calls Try.prog 79 #[.agg #[.int .i64 1, .int .i64 0, .int .i64 2], .agg #[.int .i64 p0, .int .i64 p1, .int .i64 p2, .int .i64 p3], .agg #[.int .i64 q0, .int .i64 q1, .int .i64 q2, .int .i64 q3], .pointer (some ⟨B6, 0, none⟩), .pointer (some ⟨B7, 0, none⟩)] w fun e w' => (∃ u, e = .returned u) ∧ NumAt w' B6 (x + (q2 - p2)) ∧ NumAt w' B7 y ∧ Kx (Two B6 B7) w w' := by
  have hw1 := (Below.refl w.heap.size w).alloc (Nat.le_refl _) (.cells #[.int .i64 1, .int .i64 0, .int .i64 2] 43)
  have hw2 := hw1.alloc (by simp) (.cells #[.int .i64 p0, .int .i64 p1, .int .i64 p2, .int .i64 p3] 66)
  have hw3 := hw2.alloc (by simp; omega) (.cells #[.int .i64 q0, .int .i64 q1, .int .i64 q2, .int .i64 q3] 66)
  have h6' := h6.keep hw3
  have h7' := h7.keep hw3
  have c6 := h6'.cell
  have c7 := h7'.cell
  have f6 := h6'.frozen
  have f7 := h7'.frozen
  have l6 := h6.lt
  have l7 := h7.lt
  go_enter Try.func79, Try.ntmps79
  go_wp2
  go_region
  all_goals go_wp2
  go_end0
  exact ⟨⟨_, rfl⟩, ⟨(h6'.set _).blk⟩, ⟨(h7'.other (Ne.symm hne) _).blk⟩, ((Kx.of_below hw3).setE (.inl rfl) _).drew⟩
set_option maxHeartbeats 1000000 in
theorem water_fill3 (B6 B7 : Nat) (x y p0 p1 p2 p3 q0 q1 q2 q3 : Int) (w : World) (h6 : NumAt w B6 x) (h7 : NumAt w B7 y) (hne : B6 ≠ B7) (hx : 0 ≤ x ∧ x ≤ 100000) (hp : 0 ≤ p3 ∧ p3 ≤ 12) (hq : 0 ≤ q3 ∧ q3 ≤ 12) :
    Calls Try.prog 79 #[.agg #[.int .i64 1, .int .i64 0, .int .i64 3], .agg #[.int .i64 p0, .int .i64 p1, .int .i64 p2, .int .i64 p3], .agg #[.int .i64 q0, .int .i64 q1, .int .i64 q2, .int .i64 q3], .pointer (some ⟨B6, 0, none⟩), .pointer (some ⟨B7, 0, none⟩)] w fun e w' => (∃ u, e = .returned u) ∧ NumAt w' B6 (x + (q3 - p3)) ∧ NumAt w' B7 y ∧ Kx (Two B6 B7) w w' := by
  have hw1 := (Below.refl w.heap.size w).alloc (Nat.le_refl _) (.cells #[.int .i64 1, .int .i64 0, .int .i64 3] 43)
  have hw2 := hw1.alloc (by simp) (.cells #[.int .i64 p0, .int .i64 p1, .int .i64 p2, .int .i64 p3] 66)
  have hw3 := hw2.alloc (by simp; omega) (.cells #[.int .i64 q0, .int .i64 q1, .int .i64 q2, .int .i64 q3] 66)
  have h6' := h6.keep hw3
  have h7' := h7.keep hw3
  have c6 := h6'.cell
  have c7 := h7'.cell
  have f6 := h6'.frozen
  have f7 := h7'.frozen
  have l6 := h6.lt
  have l7 := h7.lt
  go_enter Try.func79, Try.ntmps79
  go_wp2
  go_region
  all_goals go_wp2
  go_end0
  exact ⟨⟨_, rfl⟩, ⟨(h6'.set _).blk⟩, ⟨(h7'.other (Ne.symm hne) _).blk⟩, ((Kx.of_below hw3).setE (.inl rfl) _).drew⟩
set_option maxHeartbeats 1000000 in
theorem water_empty0 (B6 B7 : Nat) (x y p0 p1 p2 p3 q0 q1 q2 q3 : Int) (w : World) (h6 : NumAt w B6 x) (h7 : NumAt w B7 y) (hne : B6 ≠ B7) (hy : 0 ≤ y ∧ y ≤ 100000) (hp : 0 ≤ p0 ∧ p0 ≤ 12) (hq : 0 ≤ q0 ∧ q0 ≤ 12) :
    Calls Try.prog 79 #[.agg #[.int .i64 2, .int .i64 0, .int .i64 0], .agg #[.int .i64 p0, .int .i64 p1, .int .i64 p2, .int .i64 p3], .agg #[.int .i64 q0, .int .i64 q1, .int .i64 q2, .int .i64 q3], .pointer (some ⟨B6, 0, none⟩), .pointer (some ⟨B7, 0, none⟩)] w fun e w' => (∃ u, e = .returned u) ∧ NumAt w' B6 x ∧ NumAt w' B7 (y + (p0 - q0)) ∧ Kx (Two B6 B7) w w' := by
  have hw1 := (Below.refl w.heap.size w).alloc (Nat.le_refl _) (.cells #[.int .i64 2, .int .i64 0, .int .i64 0] 43)
  have hw2 := hw1.alloc (by simp) (.cells #[.int .i64 p0, .int .i64 p1, .int .i64 p2, .int .i64 p3] 66)
  have hw3 := hw2.alloc (by simp; omega) (.cells #[.int .i64 q0, .int .i64 q1, .int .i64 q2, .int .i64 q3] 66)
  have h6' := h6.keep hw3
  have h7' := h7.keep hw3
  have c6 := h6'.cell
  have c7 := h7'.cell
  have f6 := h6'.frozen
  have f7 := h7'.frozen
  have l6 := h6.lt
  have l7 := h7.lt
  go_enter Try.func79, Try.ntmps79
  go_wp2
  go_region
  all_goals go_wp2
  go_end0
  exact ⟨⟨_, rfl⟩, ⟨(h6'.other hne _).blk⟩, ⟨(h7'.set _).blk⟩, ((Kx.of_below hw3).setE (.inr rfl) _).drew⟩
set_option maxHeartbeats 1000000 in
theorem water_empty1 (B6 B7 : Nat) (x y p0 p1 p2 p3 q0 q1 q2 q3 : Int) (w : World) (h6 : NumAt w B6 x) (h7 : NumAt w B7 y) (hne : B6 ≠ B7) (hy : 0 ≤ y ∧ y ≤ 100000) (hp : 0 ≤ p1 ∧ p1 ≤ 12) (hq : 0 ≤ q1 ∧ q1 ≤ 12) :
    Calls Try.prog 79 #[.agg #[.int .i64 2, .int .i64 0, .int .i64 1], .agg #[.int .i64 p0, .int .i64 p1, .int .i64 p2, .int .i64 p3], .agg #[.int .i64 q0, .int .i64 q1, .int .i64 q2, .int .i64 q3], .pointer (some ⟨B6, 0, none⟩), .pointer (some ⟨B7, 0, none⟩)] w fun e w' => (∃ u, e = .returned u) ∧ NumAt w' B6 x ∧ NumAt w' B7 (y + (p1 - q1)) ∧ Kx (Two B6 B7) w w' := by
  have hw1 := (Below.refl w.heap.size w).alloc (Nat.le_refl _) (.cells #[.int .i64 2, .int .i64 0, .int .i64 1] 43)
  have hw2 := hw1.alloc (by simp) (.cells #[.int .i64 p0, .int .i64 p1, .int .i64 p2, .int .i64 p3] 66)
  have hw3 := hw2.alloc (by simp; omega) (.cells #[.int .i64 q0, .int .i64 q1, .int .i64 q2, .int .i64 q3] 66)
  have h6' := h6.keep hw3
  have h7' := h7.keep hw3
  have c6 := h6'.cell
  have c7 := h7'.cell
  have f6 := h6'.frozen
  have f7 := h7'.frozen
  have l6 := h6.lt
  have l7 := h7.lt
  go_enter Try.func79, Try.ntmps79
  go_wp2
  go_region
  all_goals go_wp2
  go_end0
  exact ⟨⟨_, rfl⟩, ⟨(h6'.other hne _).blk⟩, ⟨(h7'.set _).blk⟩, ((Kx.of_below hw3).setE (.inr rfl) _).drew⟩
set_option maxHeartbeats 1000000 in
theorem water_empty2 (B6 B7 : Nat) (x y p0 p1 p2 p3 q0 q1 q2 q3 : Int) (w : World) (h6 : NumAt w B6 x) (h7 : NumAt w B7 y) (hne : B6 ≠ B7) (hy : 0 ≤ y ∧ y ≤ 100000) (hp : 0 ≤ p2 ∧ p2 ≤ 12) (hq : 0 ≤ q2 ∧ q2 ≤ 12) :
    Calls Try.prog 79 #[.agg #[.int .i64 2, .int .i64 0, .int .i64 2], .agg #[.int .i64 p0, .int .i64 p1, .int .i64 p2, .int .i64 p3], .agg #[.int .i64 q0, .int .i64 q1, .int .i64 q2, .int .i64 q3], .pointer (some ⟨B6, 0, none⟩), .pointer (some ⟨B7, 0, none⟩)] w fun e w' => (∃ u, e = .returned u) ∧ NumAt w' B6 x ∧ NumAt w' B7 (y + (p2 - q2)) ∧ Kx (Two B6 B7) w w' := by
  have hw1 := (Below.refl w.heap.size w).alloc (Nat.le_refl _) (.cells #[.int .i64 2, .int .i64 0, .int .i64 2] 43)
  have hw2 := hw1.alloc (by simp) (.cells #[.int .i64 p0, .int .i64 p1, .int .i64 p2, .int .i64 p3] 66)
  have hw3 := hw2.alloc (by simp; omega) (.cells #[.int .i64 q0, .int .i64 q1, .int .i64 q2, .int .i64 q3] 66)
  have h6' := h6.keep hw3
  have h7' := h7.keep hw3
  have c6 := h6'.cell
  have c7 := h7'.cell
  have f6 := h6'.frozen
  have f7 := h7'.frozen
  have l6 := h6.lt
  have l7 := h7.lt
  go_enter Try.func79, Try.ntmps79
  go_wp2
  go_region
  all_goals go_wp2
  go_end0
  exact ⟨⟨_, rfl⟩, ⟨(h6'.other hne _).blk⟩, ⟨(h7'.set _).blk⟩, ((Kx.of_below hw3).setE (.inr rfl) _).drew⟩
set_option maxHeartbeats 1000000 in
theorem water_empty3 (B6 B7 : Nat) (x y p0 p1 p2 p3 q0 q1 q2 q3 : Int) (w : World) (h6 : NumAt w B6 x) (h7 : NumAt w B7 y) (hne : B6 ≠ B7) (hy : 0 ≤ y ∧ y ≤ 100000) (hp : 0 ≤ p3 ∧ p3 ≤ 12) (hq : 0 ≤ q3 ∧ q3 ≤ 12) :
    Calls Try.prog 79 #[.agg #[.int .i64 2, .int .i64 0, .int .i64 3], .agg #[.int .i64 p0, .int .i64 p1, .int .i64 p2, .int .i64 p3], .agg #[.int .i64 q0, .int .i64 q1, .int .i64 q2, .int .i64 q3], .pointer (some ⟨B6, 0, none⟩), .pointer (some ⟨B7, 0, none⟩)] w fun e w' => (∃ u, e = .returned u) ∧ NumAt w' B6 x ∧ NumAt w' B7 (y + (p3 - q3)) ∧ Kx (Two B6 B7) w w' := by
  have hw1 := (Below.refl w.heap.size w).alloc (Nat.le_refl _) (.cells #[.int .i64 2, .int .i64 0, .int .i64 3] 43)
  have hw2 := hw1.alloc (by simp) (.cells #[.int .i64 p0, .int .i64 p1, .int .i64 p2, .int .i64 p3] 66)
  have hw3 := hw2.alloc (by simp; omega) (.cells #[.int .i64 q0, .int .i64 q1, .int .i64 q2, .int .i64 q3] 66)
  have h6' := h6.keep hw3
  have h7' := h7.keep hw3
  have c6 := h6'.cell
  have c7 := h7'.cell
  have f6 := h6'.frozen
  have f7 := h7'.frozen
  have l6 := h6.lt
  have l7 := h7.lt
  go_enter Try.func79, Try.ntmps79
  go_wp2
  go_region
  all_goals go_wp2
  go_end0
  exact ⟨⟨_, rfl⟩, ⟨(h6'.other hne _).blk⟩, ⟨(h7'.set _).blk⟩, ((Kx.of_below hw3).setE (.inr rfl) _).drew⟩

set_option maxHeartbeats 1000000 in
theorem water_pour (B6 B7 : Nat) (x y f k p0 p1 p2 p3 q0 q1 q2 q3 : Int) (w : World) (h6 : NumAt w B6 x) (h7 : NumAt w B7 y) :
    Calls Try.prog 79 #[.agg #[.int .i64 3, .int .i64 f, .int .i64 k], .agg #[.int .i64 p0, .int .i64 p1, .int .i64 p2, .int .i64 p3], .agg #[.int .i64 q0, .int .i64 q1, .int .i64 q2, .int .i64 q3], .pointer (some ⟨B6, 0, none⟩), .pointer (some ⟨B7, 0, none⟩)] w fun e w' => (∃ u, e = .returned u) ∧ NumAt w' B6 x ∧ NumAt w' B7 y ∧ Kx (Two B6 B7) w w' := by
  have hw1 := (Below.refl w.heap.size w).alloc (Nat.le_refl _) (.cells #[.int .i64 3, .int .i64 f, .int .i64 k] 43)
  have hw2 := hw1.alloc (by simp) (.cells #[.int .i64 p0, .int .i64 p1, .int .i64 p2, .int .i64 p3] 66)
  have hw3 := hw2.alloc (by simp; omega) (.cells #[.int .i64 q0, .int .i64 q1, .int .i64 q2, .int .i64 q3] 66)
  have h6' := h6.keep hw3
  have h7' := h7.keep hw3
  clear h6 h7
  go_enter Try.func79, Try.ntmps79
  go_wp2
  go_end0
  exact ⟨⟨_, rfl⟩, h6', h7', Kx.of_below hw3⟩

theorem water_any (B6 B7 : Nat) (x y : Int) (t l : List Int) (d : Deed) (w : World) (h6 : NumAt w B6 x) (h7 : NumAt w B7 y) (hne : B6 ≠ B7) (hx : 0 ≤ x ∧ x ≤ 100000) (hy : 0 ≤ y ∧ y ≤ 100000) (ht : Tvl t) (hl : Lev t l) (hd : IsD t.length d) :
    Calls Try.prog 79 #[deedV d, pad l, pad (doneL t l d), .pointer (some ⟨B6, 0, none⟩), .pointer (some ⟨B7, 0, none⟩)] w fun e w' => (∃ u, e = .returned u) ∧ NumAt w' B6 (x + dIn t l d) ∧ NumAt w' B7 (y + dOut l d) ∧ Kx (Two B6 B7) w w' := by
  have hlv := doneL_lev ht hl hd
  obtain ⟨o, f, k⟩ := d
  have h4 := ht.hi
  have hlen := hl.1
  have hb := hl.bd ht
  have hb' := hlv.bd ht
  unfold IsD at hd
  simp only at hd
  rcases hd with ⟨h1, rfl, h2, h3⟩ | ⟨rfl, f1, f2, h2, h3, hne'⟩
  · obtain ⟨k, rfl⟩ := Int.eq_ofNat_of_zero_le h2
    have hk : k < t.length := by omega
    have hkl : k < l.length := by omega
    have hc : k = 0 ∨ k = 1 ∨ k = 2 ∨ k = 3 := by omega
    have b1 := hb k hk
    have b2 := hb' k hk
    rcases h1 with rfl | rfl
    · have q : (doneL t l (1, 0, (k : Int))).getD k 0 = t.getD k 0 := by
        rw [show doneL t l (1, 0, (k : Int)) = l.set k (t.getD k 0) by unfold doneL; simp, getD_setI hkl, if_pos rfl]
      have ei : dIn t l (1, 0, (k : Int)) = (doneL t l (1, 0, (k : Int))).getD k 0 - l.getD k 0 := by rw [q]; unfold dIn; rw [if_pos rfl]; rfl
      have eo : dOut l (1, 0, (k : Int)) = 0 := by unfold dOut; rw [if_neg (by simp)]
      rw [ei, eo, Int.add_zero]
      rcases hc with rfl | rfl | rfl | rfl
      · exact water_fill0 B6 B7 x y _ _ _ _ _ _ _ _ w h6 h7 hne hx b1 b2
      · exact water_fill1 B6 B7 x y _ _ _ _ _ _ _ _ w h6 h7 hne hx b1 b2
      · exact water_fill2 B6 B7 x y _ _ _ _ _ _ _ _ w h6 h7 hne hx b1 b2
      · exact water_fill3 B6 B7 x y _ _ _ _ _ _ _ _ w h6 h7 hne hx b1 b2
    · have q : (doneL t l (2, 0, (k : Int))).getD k 0 = 0 := by
        rw [show doneL t l (2, 0, (k : Int)) = l.set k 0 by unfold doneL; simp, getD_setI hkl, if_pos rfl]
      have ei : dIn t l (2, 0, (k : Int)) = 0 := by unfold dIn; rw [if_neg (by simp)]
      have eo : dOut l (2, 0, (k : Int)) = l.getD k 0 - (doneL t l (2, 0, (k : Int))).getD k 0 := by rw [q, Int.sub_zero]; unfold dOut; rw [if_pos rfl]; rfl
      rw [ei, eo, Int.add_zero]
      rcases hc with rfl | rfl | rfl | rfl
      · exact water_empty0 B6 B7 x y _ _ _ _ _ _ _ _ w h6 h7 hne hy b1 b2
      · exact water_empty1 B6 B7 x y _ _ _ _ _ _ _ _ w h6 h7 hne hy b1 b2
      · exact water_empty2 B6 B7 x y _ _ _ _ _ _ _ _ w h6 h7 hne hy b1 b2
      · exact water_empty3 B6 B7 x y _ _ _ _ _ _ _ _ w h6 h7 hne hy b1 b2
  · have ei : dIn t l (3, f, k) = 0 := by unfold dIn; rw [if_neg (by simp)]
    have eo : dOut l (3, f, k) = 0 := by unfold dOut; rw [if_neg (by simp)]
    rw [ei, eo, Int.add_zero, Int.add_zero]
    exact water_pour B6 B7 x y f k _ _ _ _ _ _ _ _ w h6 h7

end Go.Proofs.Ytikcpfpeoofppaa
