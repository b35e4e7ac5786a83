/- The walk of the law FundChecks. -/
import Derived.Test.YtaakefjblldccaaM2
namespace Go.Proofs.Ytaakefjblldccaa
open Go.RowKit

set_option maxHeartbeats 400000 in
theorem long_any (v : Value) (c : List Int) (w : World) (hv : IntsAt w v c) :
    Calls Try.prog 20 #[v] w fun e w' => e = .returned (.bool (decide (40 < c.length))) ∧ w = w' := by
  obtain ⟨a, cap, rfl, hl, hq⟩ := hv
  clear hq
  go_enter Try.func20, Try.ntmps20
  go_wp2
  go_ret
  exact ⟨ret_b (by rw [Bool.eq_iff_iff]; simp; omega), rfl⟩

set_option maxHeartbeats 2000000 in
theorem FundChecks_walk (v x : Value) (c : List Int) (l : List Rat2) (n : Int) (w : World) (hv : IntsAt w v c) (hx : RatsAt w x l) :
    Calls Try.prog 4 #[v, .int .i64 n, x] w fun e w' => e = .returned (.bool true) ∧ Below w.heap.size w w' := by
  have HV := Lib.hid hv
  have HX := Lib.hid hx
  obtain ⟨a, cap, rfl, hl, hq⟩ := hx
  clear hq hv
  by_cases h1 : 40 < c.length
  · have L : Hid (decide (40 < c.length) = true) := Lib.hid (decide_eq_true h1)
    clear h1
    go_enter Try.func4, Try.ntmps4
    go_wp2_with fail
    refine (long_any _ _ _ HV.out).mono ?_
    rintro e w' ⟨rfl, rfl⟩
    rw [L.out]
    go_wp2_with fail
    refine (sane_any _).mono ?_
    rintro e w1 ⟨rfl, hb1⟩
    go_wp2
    go_ret
    exact ⟨rfl, hb1⟩
  · have L : Hid (decide (40 < c.length) = false) := Lib.hid (decide_eq_false h1)
    clear h1
    by_cases h2 : 40 < l.length
    · have h2' : ((40 : Int) < (l.length : Int)) := by omega
      go_enter Try.func4, Try.ntmps4
      go_wp2_with fail
      refine (long_any _ _ _ HV.out).mono ?_
      rintro e w' ⟨rfl, rfl⟩
      rw [L.out]
      go_wp2_with fail
      refine (sane_any _).mono ?_
      rintro e w1 ⟨rfl, hb1⟩
      go_wp2
      go_ret
      exact ⟨rfl, hb1⟩
    · have h2' : decide ((40 : Int) < (l.length : Int)) = false := decide_eq_false (by omega)
      go_enter Try.func4, Try.ntmps4
      go_wp2_with fail
      refine (long_any _ _ _ HV.out).mono ?_
      rintro e w' ⟨rfl, rfl⟩
      rw [L.out]
      go_wp2_with fail
      refine (tShares_any _ _ _ _ _ _ HV.out HX.out).mono ?_
      rintro e w1 ⟨rfl, hb1⟩
      go_wp2_with fail
      refine (rShares_any _ _ _ _ _ _ (HV.out.below hb1) (HX.out.below hb1)).mono ?_
      rintro e w2 ⟨rfl, hb2'⟩
      have hb2 := below_trans hb1 hb2'
      go_wp2_with fail
      refine (tAgrees_any _ _ _ _ _ _ (HV.out.below hb2) (HX.out.below hb2)).mono ?_
      rintro e w3 ⟨rfl, hb3'⟩
      have hb3 := below_trans hb2 hb3'
      go_wp2_with fail
      refine (rAgrees_any _ _ _ _ _ _ (HV.out.below hb3) (HX.out.below hb3)).mono ?_
      rintro e w4 ⟨rfl, hb4'⟩
      have hb4 := below_trans hb3 hb4'
      go_wp2_with fail
      refine (sane_any _).mono ?_
      rintro e w5 ⟨rfl, hb5⟩
      go_wp2
      go_ret
      exact ⟨rfl, below_trans hb4 hb5⟩

end Go.Proofs.Ytaakefjblldccaa
