/- Contracts: the rule of one garment, and the sanity check. -/
import Derived.Test.YtaakefjblldccaaA
namespace Go.Proofs.Ytaakefjblldccaa
open Go.RowKit

/-- Twice what the first of two is awarded by the rule for one garment. -/
def garm (a b parts whole : Int) : Int := 2 * max 0 (parts - b * whole) + parts - max 0 (parts - b * whole) - max 0 (parts - a * whole)

set_option maxHeartbeats 400000 in
theorem garment_any (a b parts whole : Int) (w : World) (h1 : 0 ≤ b * whole ∧ b * whole ≤ 10000000000000000) (h2 : 0 ≤ a * whole ∧ a * whole ≤ 10000000000000000)
    (h3 : -10000000000000000 ≤ parts ∧ parts ≤ 10000000000000000) :
    Calls Try.prog 54 #[.int .i64 a, .int .i64 b, .int .i64 parts, .int .i64 whole] w fun e w' => e = .returned (.int .i64 (garm a b parts whole)) ∧ w = w' := by
  go_enter Try.func54, Try.ntmps54
  go_wp2
  all_goals
    go_ret
    exact ⟨ret_i (by unfold garm; omega), rfl⟩

theorem garm_bd (a b e : Int) (ha : 0 ≤ a ∧ a ≤ 1000) (hb : 0 ≤ b ∧ b ≤ 1000) (he : 0 ≤ e ∧ e ≤ a + b) : 0 ≤ garm a b e 1 ∧ garm a b e 1 ≤ 10000 := by
  unfold garm; omega

/-- Whether two claims and an estate are as described. -/
def garOk (a b e : Int) : Bool := betw 0 a 1000 && betw 0 b 1000 && betw 0 e (a + b)

/-- The results of Garment. -/
def garR (a b e : Int) : Value := if garOk a b e then .tuple #[ratV (garm a b e 1) 2, ratV (garm b a e 1) 2, .int .i64 0] else .tuple #[.agg #[.int .i64 0, .int .i64 0], .agg #[.int .i64 0, .int .i64 0], .int .i64 2]



set_option maxHeartbeats 1000000 in
theorem Garment_any (a b s : Int) (w : World) :
    Calls Try.prog 17 #[.int .i64 a, .int .i64 b, .int .i64 s] w fun e w' => e = .returned (garR a b s) ∧ Below w.heap.size w w' := by
  unfold garR garOk
  cases ha : betw 0 a 1000 with
  | false =>
    have HA := Lib.hid ha
    clear ha
    simp only [Bool.false_and, Bool.false_eq_true, if_false]
    go_enter Try.func17, Try.ntmps17
    go_wp2_with (first
      | (go_at_call_of 52 (Value.int .i64 a); refine (between_any _ _ _ _).mono ?_; rintro e w' ⟨rfl, rfl⟩; rw [HA.out])
      | (go_at_call_of 52 (Value.int .i64 b); refine (between_any _ _ _ _).mono ?_; rintro e w' ⟨rfl, rfl⟩; rw [HB.out])
      | (go_at_call_of 52 (Value.int .i64 s); refine (between_any _ _ _ _).mono ?_; rintro e w' ⟨rfl, rfl⟩; rw [HS.out]))
    refine bodyPost_ret (v := .tuple #[.agg #[.int .i64 0, .int .i64 0], .agg #[.int .i64 0, .int .i64 0], .int .i64 2]) (by simp [results, Try.results17, go_sem]) rfl ⟨rfl, ?_⟩
    repeat (first | exact Below.refl _ _ | refine Below.setCell ?_ (by simp) _ | refine Below.alloc ?_ (by simp) _)
  | true =>
    have HA := Lib.hid ha
    have hab := (betw_iff _ _ _).1 ha
    clear ha
    cases hb : betw 0 b 1000 with
    | false =>
      have HB := Lib.hid hb
      clear hb
      simp only [Bool.and_false, Bool.false_and, Bool.false_eq_true, if_false]
      go_enter Try.func17, Try.ntmps17
      go_wp2_with (first
        | (go_at_call_of 52 (Value.int .i64 a); refine (between_any _ _ _ _).mono ?_; rintro e w' ⟨rfl, rfl⟩; rw [HA.out])
        | (go_at_call_of 52 (Value.int .i64 b); refine (between_any _ _ _ _).mono ?_; rintro e w' ⟨rfl, rfl⟩; rw [HB.out])
        | (go_at_call_of 52 (Value.int .i64 s); refine (between_any _ _ _ _).mono ?_; rintro e w' ⟨rfl, rfl⟩; rw [HS.out]))
      refine bodyPost_ret (v := .tuple #[.agg #[.int .i64 0, .int .i64 0], .agg #[.int .i64 0, .int .i64 0], .int .i64 2]) (by simp [results, Try.results17, go_sem]) rfl ⟨rfl, ?_⟩
      repeat (first | exact Below.refl _ _ | refine Below.setCell ?_ (by simp) _ | refine Below.alloc ?_ (by simp) _)
    | true =>
      have HB := Lib.hid hb
      have hbb := (betw_iff _ _ _).1 hb
      clear hb
      cases hs : betw 0 s (a + b) with
      | false =>
        have HS := Lib.hid hs
        clear hs
        simp only [Bool.and_false, Bool.false_eq_true, if_false]
        go_enter Try.func17, Try.ntmps17
        go_wp2_with (first
          | (go_at_call_of 52 (Value.int .i64 a); refine (between_any _ _ _ _).mono ?_; rintro e w' ⟨rfl, rfl⟩; rw [HA.out])
          | (go_at_call_of 52 (Value.int .i64 b); refine (between_any _ _ _ _).mono ?_; rintro e w' ⟨rfl, rfl⟩; rw [HB.out])
          | (go_at_call_of 52 (Value.int .i64 s); refine (between_any _ _ _ _).mono ?_; rintro e w' ⟨rfl, rfl⟩; rw [HS.out]))
        refine bodyPost_ret (v := .tuple #[.agg #[.int .i64 0, .int .i64 0], .agg #[.int .i64 0, .int .i64 0], .int .i64 2]) (by simp [results, Try.results17, go_sem]) rfl ⟨rfl, ?_⟩
        repeat (first | exact Below.refl _ _ | refine Below.setCell ?_ (by simp) _ | refine Below.alloc ?_ (by simp) _)
      | true =>
        have HS := Lib.hid hs
        have hsb := (betw_iff _ _ _).1 hs
        clear hs
        simp only [Bool.and_self, if_true]
        have g1 := garm_bd a b s hab hbb hsb
        have g2 := garm_bd b a s hbb hab (by omega)
        go_enter Try.func17, Try.ntmps17
        go_wp2_with (first
          | (go_at_call_of 52 (Value.int .i64 1000); go_at_call_of 52 (Value.int .i64 a); refine (between_any _ _ _ _).mono ?_; rintro e w' ⟨rfl, rfl⟩; rw [HA.out])
          | (go_at_call_of 52 (Value.int .i64 1000); go_at_call_of 52 (Value.int .i64 b); refine (between_any _ _ _ _).mono ?_; rintro e w' ⟨rfl, rfl⟩; rw [HB.out])
          | (go_at_call_of 52 (Value.int .i64 s); refine (between_any _ _ _ _).mono ?_; rintro e w' ⟨rfl, rfl⟩; rw [HS.out]))
        refine (garment_any _ _ _ _ _ (by omega) (by omega) (by omega)).mono ?_
        rintro e w' ⟨rfl, rfl⟩
        go_wp2_with fail
        refine (ratio_any _ _ _ (by omega) (by omega) (by omega) (by omega)).mono ?_
        rintro e w1 ⟨rfl, hb1⟩
        go_wp2_with fail
        refine (garment_any _ _ _ _ _ (by omega) (by omega) (by omega)).mono ?_
        rintro e w' ⟨rfl, rfl⟩
        go_wp2_with fail
        refine (ratio_any _ _ _ (by omega) (by omega) (by omega) (by omega)).mono ?_
        rintro e w2 ⟨rfl, hb2⟩
        have hbel := below_trans hb1 hb2
        have c0 : (w2).cell? ⟨w.heap.size, 0, none⟩ = some (.int .i64 0) := (hbel.cell (p := ⟨w.heap.size, 0, none⟩) (by simp <;> omega)).trans (by simp)
        have c1 : (w2).cell? ⟨w.heap.size, 1, none⟩ = some (.int .i64 0) := (hbel.cell (p := ⟨w.heap.size, 1, none⟩) (by simp <;> omega)).trans (by simp)
        have f0 : (w2).frozen? ⟨w.heap.size, 0, none⟩ = false := (hbel.frozen (p := ⟨w.heap.size, 0, none⟩) (by simp <;> omega)).trans (by simp)
        have f1 : (w2).frozen? ⟨w.heap.size, 1, none⟩ = false := (hbel.frozen (p := ⟨w.heap.size, 1, none⟩) (by simp <;> omega)).trans (by simp)
        have c2 : (w2).cell? ⟨w.heap.size + 1, 0, none⟩ = some (.int .i64 0) := (hbel.cell (p := ⟨w.heap.size + 1, 0, none⟩) (by simp <;> omega)).trans (by simp)
        have c3 : (w2).cell? ⟨w.heap.size + 1, 1, none⟩ = some (.int .i64 0) := (hbel.cell (p := ⟨w.heap.size + 1, 1, none⟩) (by simp <;> omega)).trans (by simp)
        have f2 : (w2).frozen? ⟨w.heap.size + 1, 0, none⟩ = false := (hbel.frozen (p := ⟨w.heap.size + 1, 0, none⟩) (by simp <;> omega)).trans (by simp)
        have f3 : (w2).frozen? ⟨w.heap.size + 1, 1, none⟩ = false := (hbel.frozen (p := ⟨w.heap.size + 1, 1, none⟩) (by simp <;> omega)).trans (by simp)
        unfold ratV
        go_wp2
        refine bodyPost_ret (v := .tuple #[ratV (garm a b s 1) 2, ratV (garm b a s 1) 2, .int .i64 0]) (by unfold ratV; simp [results, Try.results17, go_sem, c0, c1, c2, c3]) rfl ⟨rfl, ?_⟩
        refine Below.setCell (Below.setCell (Below.setCell (Below.setCell ?_ (by simp) _) (by simp) _) (by simp) _) (by simp) _
        exact ((((Below.refl _ w).alloc (Nat.le_refl _) _).alloc (by simp) _).trans (hbel.mono (by simp; omega)))

theorem calls_arg {P : Program} {f : Nat} {X Y : Int} {c : Value} {w : World} {R : Ending → World → Prop} (h : X = Y) (hc : Calls P f #[.int .i64 Y, c] w R) : Calls P f #[.int .i64 X, c] w R := by
  rw [h]; exact hc


set_option maxHeartbeats 1000000 in
theorem rGarment_any (a b s : Int) (w : World) :
    Calls Try.prog 18 #[.int .i64 a, .int .i64 b, .int .i64 s] w fun e w' => e = .returned (garR a b s) ∧ Below w.heap.size w w' := by
  unfold garR garOk
  cases ha : betw 0 a 1000 with
  | false =>
    have HA := Lib.hid ha
    clear ha
    simp only [Bool.false_and, Bool.false_eq_true, if_false]
    go_enter Try.func18, Try.ntmps18
    go_wp2_with (first
      | (go_at_call_of 55 (Value.int .i64 1000); go_at_call_of 55 (Value.int .i64 a); refine (within_any _ _ _ _).mono ?_; rintro e w' ⟨rfl, rfl⟩; rw [HA.out])
      | (go_at_call_of 55 (Value.int .i64 1000); go_at_call_of 55 (Value.int .i64 b); refine (within_any _ _ _ _).mono ?_; rintro e w' ⟨rfl, rfl⟩; rw [HB.out])
      | (go_at_call_of 55 (Value.int .i64 s); refine (within_any _ _ _ _).mono ?_; rintro e w' ⟨rfl, rfl⟩; rw [HS.out]))
    refine bodyPost_ret (v := .tuple #[.agg #[.int .i64 0, .int .i64 0], .agg #[.int .i64 0, .int .i64 0], .int .i64 2]) (by simp [results, Try.results18, go_sem]) rfl ⟨rfl, ?_⟩
    repeat (first | exact Below.refl _ _ | refine Below.setCell ?_ (by simp) _ | refine Below.alloc ?_ (by simp) _)
  | true =>
    have HA := Lib.hid ha
    have hab := (betw_iff _ _ _).1 ha
    clear ha
    cases hb : betw 0 b 1000 with
    | false =>
      have HB := Lib.hid hb
      clear hb
      simp only [Bool.and_false, Bool.false_and, Bool.false_eq_true, if_false]
      go_enter Try.func18, Try.ntmps18
      go_wp2_with (first
        | (go_at_call_of 55 (Value.int .i64 1000); go_at_call_of 55 (Value.int .i64 a); refine (within_any _ _ _ _).mono ?_; rintro e w' ⟨rfl, rfl⟩; rw [HA.out])
        | (go_at_call_of 55 (Value.int .i64 1000); go_at_call_of 55 (Value.int .i64 b); refine (within_any _ _ _ _).mono ?_; rintro e w' ⟨rfl, rfl⟩; rw [HB.out])
        | (go_at_call_of 55 (Value.int .i64 s); refine (within_any _ _ _ _).mono ?_; rintro e w' ⟨rfl, rfl⟩; rw [HS.out]))
      refine bodyPost_ret (v := .tuple #[.agg #[.int .i64 0, .int .i64 0], .agg #[.int .i64 0, .int .i64 0], .int .i64 2]) (by simp [results, Try.results18, go_sem]) rfl ⟨rfl, ?_⟩
      repeat (first | exact Below.refl _ _ | refine Below.setCell ?_ (by simp) _ | refine Below.alloc ?_ (by simp) _)
    | true =>
      have HB := Lib.hid hb
      have hbb := (betw_iff _ _ _).1 hb
      clear hb
      cases hs : betw 0 s (a + b) with
      | false =>
        have HS := Lib.hid hs
        clear hs
        simp only [Bool.and_false, Bool.false_eq_true, if_false]
        go_enter Try.func18, Try.ntmps18
        go_wp2_with (first
          | (go_at_call_of 55 (Value.int .i64 1000); go_at_call_of 55 (Value.int .i64 a); refine (within_any _ _ _ _).mono ?_; rintro e w' ⟨rfl, rfl⟩; rw [HA.out])
          | (go_at_call_of 55 (Value.int .i64 1000); go_at_call_of 55 (Value.int .i64 b); refine (within_any _ _ _ _).mono ?_; rintro e w' ⟨rfl, rfl⟩; rw [HB.out])
          | (go_at_call_of 55 (Value.int .i64 s); refine (within_any _ _ _ _).mono ?_; rintro e w' ⟨rfl, rfl⟩; rw [HS.out]))
        refine bodyPost_ret (v := .tuple #[.agg #[.int .i64 0, .int .i64 0], .agg #[.int .i64 0, .int .i64 0], .int .i64 2]) (by simp [results, Try.results18, go_sem]) rfl ⟨rfl, ?_⟩
        repeat (first | exact Below.refl _ _ | refine Below.setCell ?_ (by simp) _ | refine Below.alloc ?_ (by simp) _)
      | true =>
        have HS := Lib.hid hs
        have hsb := (betw_iff _ _ _).1 hs
        clear hs
        simp only [Bool.and_self, if_true]
        have g1 := garm_bd a b s hab hbb hsb
        have g2 := garm_bd b a s hbb hab (by omega)
        go_enter Try.func18, Try.ntmps18
        go_wp2_with (first
          | (go_at_call_of 55 (Value.int .i64 1000); go_at_call_of 55 (Value.int .i64 a); refine (within_any _ _ _ _).mono ?_; rintro e w' ⟨rfl, rfl⟩; rw [HA.out])
          | (go_at_call_of 55 (Value.int .i64 1000); go_at_call_of 55 (Value.int .i64 b); refine (within_any _ _ _ _).mono ?_; rintro e w' ⟨rfl, rfl⟩; rw [HB.out])
          | (go_at_call_of 55 (Value.int .i64 s); refine (within_any _ _ _ _).mono ?_; rintro e w' ⟨rfl, rfl⟩; rw [HS.out]))
        all_goals
          refine calls_arg (Y := garm a b s 1) (by unfold garm; omega) ?_
          refine (rRatio_any _ _ _ (by omega) (by omega) (by omega) (by omega)).mono ?_
          rintro e w1 ⟨rfl, hb1⟩
          go_wp2_with fail
          refine calls_arg (Y := garm b a s 1) (by unfold garm; omega) ?_
          refine (rRatio_any _ _ _ (by omega) (by omega) (by omega) (by omega)).mono ?_
          rintro e w2 ⟨rfl, hb2⟩
          have hbel := below_trans hb1 hb2
          have c0 : (w2).cell? ⟨w.heap.size, 0, none⟩ = some (.int .i64 0) := (hbel.cell (p := ⟨w.heap.size, 0, none⟩) (by simp <;> omega)).trans (by simp)
          have c1 : (w2).cell? ⟨w.heap.size, 1, none⟩ = some (.int .i64 0) := (hbel.cell (p := ⟨w.heap.size, 1, none⟩) (by simp <;> omega)).trans (by simp)
          have f0 : (w2).frozen? ⟨w.heap.size, 0, none⟩ = false := (hbel.frozen (p := ⟨w.heap.size, 0, none⟩) (by simp <;> omega)).trans (by simp)
          have f1 : (w2).frozen? ⟨w.heap.size, 1, none⟩ = false := (hbel.frozen (p := ⟨w.heap.size, 1, none⟩) (by simp <;> omega)).trans (by simp)
          have c2 : (w2).cell? ⟨w.heap.size + 1, 0, none⟩ = some (.int .i64 0) := (hbel.cell (p := ⟨w.heap.size + 1, 0, none⟩) (by simp <;> omega)).trans (by simp)
          have c3 : (w2).cell? ⟨w.heap.size + 1, 1, none⟩ = some (.int .i64 0) := (hbel.cell (p := ⟨w.heap.size + 1, 1, none⟩) (by simp <;> omega)).trans (by simp)
          have f2 : (w2).frozen? ⟨w.heap.size + 1, 0, none⟩ = false := (hbel.frozen (p := ⟨w.heap.size + 1, 0, none⟩) (by simp <;> omega)).trans (by simp)
          have f3 : (w2).frozen? ⟨w.heap.size + 1, 1, none⟩ = false := (hbel.frozen (p := ⟨w.heap.size + 1, 1, none⟩) (by simp <;> omega)).trans (by simp)
          unfold ratV
          go_wp2
          refine bodyPost_ret (v := .tuple #[ratV (garm a b s 1) 2, ratV (garm b a s 1) 2, .int .i64 0]) (by unfold ratV; simp [results, Try.results18, go_sem, c0, c1, c2, c3]) rfl ⟨rfl, ?_⟩
          refine Below.setCell (Below.setCell (Below.setCell (Below.setCell ?_ (by simp) _) (by simp) _) (by simp) _) (by simp) _
          exact ((((Below.refl _ w).alloc (Nat.le_refl _) _).alloc (by simp) _).trans (hbel.mono (by simp; omega)))

theorem sane_ok : garR 100 50 100 = .tuple #[.agg #[.int .i64 75, .int .i64 1], .agg #[.int .i64 25, .int .i64 1], .int .i64 0] := by
  have h1 : garOk 100 50 100 = true := by decide
  have h2 : garm 100 50 100 1 = 150 := by decide
  have h3 : garm 50 100 100 1 = 50 := by decide
  unfold garR
  rw [h1, h2, h3]
  rfl

set_option maxHeartbeats 400000 in
theorem sane_any (w : World) :
    Calls Try.prog 19 #[] w fun e w' => e = .returned (.bool true) ∧ Below w.heap.size w w' := by
  go_enter Try.func19, Try.ntmps19
  go_wp2_with (go_at_call 17; refine (Garment_any _ _ _ _).mono ?_; rintro e w1 ⟨rfl, hb1⟩; rw [sane_ok])
  go_ret
  refine ⟨rfl, ?_⟩
  have hsz := hb1.size
  repeat (first | assumption | exact Below.refl _ _ | refine Below.setCell ?_ (by first | omega | (simp; done) | (simp; omega)) _ | refine Below.drew ?_ | refine Below.alloc ?_ (by first | omega | (simp; done) | (simp; omega)) _)

theorem garR_yes {a b s : Int} (h : garOk a b s = true) : garR a b s = .tuple #[.agg #[.int .i64 (rn (garm a b s 1) 2), .int .i64 (rd (garm a b s 1) 2)], .agg #[.int .i64 (rn (garm b a s 1) 2), .int .i64 (rd (garm b a s 1) 2)], .int .i64 0] := by
  unfold garR ratV; rw [h]; rfl
theorem garR_no {a b s : Int} (h : garOk a b s = false) : garR a b s = .tuple #[.agg #[.int .i64 0, .int .i64 0], .agg #[.int .i64 0, .int .i64 0], .int .i64 2] := by
  unfold garR; rw [h]; rfl

theorem two_cells {w w2 : World} {x0 x1 y0 y1 : Value} {t : TypeId} (hb : Below ((w.alloc (.cells #[x0, x1] t)).alloc (.cells #[y0, y1] t)).heap.size ((w.alloc (.cells #[x0, x1] t)).alloc (.cells #[y0, y1] t)) w2) :
    (w2.cell? ⟨w.heap.size, 0, none⟩ = some x0 ∧ w2.cell? ⟨w.heap.size, 1, none⟩ = some x1) ∧ w2.cell? ⟨w.heap.size + 1, 0, none⟩ = some y0 ∧ w2.cell? ⟨w.heap.size + 1, 1, none⟩ = some y1 := by
  have hs : (w.alloc (.cells #[x0, x1] t)).heap.size = w.heap.size + 1 := by simp
  refine ⟨⟨keep_cell hb (by simp), keep_cell hb (by simp)⟩, keep_cell hb ?_, keep_cell hb ?_⟩ <;> rw [← hs] <;> simp

theorem two_lt {w w2 : World} {a b : Obj} (hb : Below ((w.alloc a).alloc b).heap.size ((w.alloc a).alloc b) w2) :
    w.heap.size < w2.heap.size ∧ w.heap.size + 1 < w2.heap.size ∧ w.heap.size < w2.heap.size + 1 ∧ w.heap.size + 1 < w2.heap.size + 1 := by
  have h := hb.size
  simp only [World.size_alloc] at h
  omega


set_option maxHeartbeats 400000 in
theorem FundGarments_walk (a b s : Int) (w : World) :
    Calls Try.prog 3 #[.int .i64 a, .int .i64 b, .int .i64 s] w fun e w' => e = .returned (.bool true) ∧ Below w.heap.size w w' := by
  cases h : garOk a b s with
  | true =>
    have E := garR_yes h
    have EE := Lib.hid E
    clear E h
    go_enter Try.func3, Try.ntmps3
    go_wp2_with (first
      | (go_at_call 17; refine (Garment_any _ _ _ _).mono ?_; rintro e w1 ⟨rfl, hb1⟩; rw [EE.out])
      | (go_at_call 18; refine (rGarment_any _ _ _ _).mono ?_; rintro e w2 ⟨rfl, hb2⟩; rw [EE.out]; obtain ⟨⟨k0, k1⟩, k2, k3⟩ := two_cells hb2; obtain ⟨hl1, hl2, hl3, hl4⟩ := two_lt hb2)
      | (go_at_call 19; refine (sane_any _).mono ?_; rintro e w3 ⟨rfl, hb3⟩))
    go_ret
    refine ⟨rfl, ?_⟩
    have hs1 := hb1.size
    have B2 : Below w.heap.size w w2 := (((hb1.alloc hs1 _).alloc (by simp; omega) _).trans (hb2.mono (by simp; omega)))
    exact (((B2.alloc (by omega) _).alloc (by simp; omega) _).trans (hb3.mono (by simp; omega)))
  | false =>
    have E := garR_no h
    have EE := Lib.hid E
    clear E h
    go_enter Try.func3, Try.ntmps3
    go_wp2_with (first
      | (go_at_call 17; refine (Garment_any _ _ _ _).mono ?_; rintro e w1 ⟨rfl, hb1⟩; rw [EE.out])
      | (go_at_call 18; refine (rGarment_any _ _ _ _).mono ?_; rintro e w2 ⟨rfl, hb2⟩; rw [EE.out]; obtain ⟨⟨k0, k1⟩, k2, k3⟩ := two_cells hb2; obtain ⟨hl1, hl2, hl3, hl4⟩ := two_lt hb2)
      | (go_at_call 19; refine (sane_any _).mono ?_; rintro e w3 ⟨rfl, hb3⟩))
    go_ret
    refine ⟨rfl, ?_⟩
    have hs1 := hb1.size
    have B2 : Below w.heap.size w w2 := (((hb1.alloc hs1 _).alloc (by simp; omega) _).trans (hb2.mono (by simp; omega)))
    exact (((B2.alloc (by omega) _).alloc (by simp; omega) _).trans (hb3.mono (by simp; omega)))

end Go.Proofs.Ytaakefjblldccaa
