/- The walk of the law TideOthers. -/
import Derived.Test.YtflhpnhehaokpaaR
import Derived.Test.YtflhpnhehaokpaaO
import Derived.Test.YtflhpnhehaokpaaLawF
namespace Go.Proofs.Ytflhpnhehaokpaa
open Go.RowKit


set_option maxRecDepth 100000 in
set_option maxHeartbeats 2000000 in
theorem TideOthers_walk (v x : Value) (t u : List (List Int)) (by' : Int) (w : World) (hv : RowsAt w v t) (hx : RowsAt w x u) :
    Calls Try.prog 11 #[v, x, .int .i64 by'] w fun e w' => e = .returned (.bool true) ∧ Below w.heap.size w w' := by
  cases hw : wide t with
  | true =>
    have W := Lib.hid hw
    clear hw
    go_enter Try.func11, Try.ntmps11
    go_wp2_with fail
    refine (wide_any _ _ _ hv).mono ?_
    rintro e w' ⟨rfl, rfl⟩
    rw [W.out]
    go_wp2_with (first
      | (go_at_call 16; refine (awake_any _).mono ?_; rintro e w1 ⟨rfl, hb1⟩))
    go_ret
    exact ⟨rfl, hb1⟩
  | false =>
    have W := Lib.hid hw
    clear hw
    cases hw2 : wide u with
    | true =>
      have W2 := Lib.hid hw2
      clear hw2
      go_enter Try.func11, Try.ntmps11
      go_wp2_with fail
      refine (wide_any _ _ _ hv).mono ?_
      rintro e w' ⟨rfl, rfl⟩
      rw [W.out]
      go_wp2_with fail
      refine (wide_any _ _ _ hx).mono ?_
      rintro e w' ⟨rfl, rfl⟩
      rw [W2.out]
      go_wp2_with (first
        | (go_at_call 16; refine (awake_any _).mono ?_; rintro e w1 ⟨rfl, hb1⟩))
      go_ret
      exact ⟨rfl, hb1⟩
    | false =>
      have W2 := Lib.hid hw2
      clear hw2
      have hI := Inv2.start hv hx
      go_enter Try.func11, Try.ntmps11
      go_wp2_with fail
      refine (wide_any _ _ _ hv).mono ?_
      rintro e w' ⟨rfl, rfl⟩
      rw [W.out]
      go_wp2_with fail
      refine (wide_any _ _ _ hx).mono ?_
      rintro e w' ⟨rfl, rfl⟩
      rw [W2.out]
      clear hv hx
      go_wp2_with fail
      refine (tShifted_any _ _ _ _ hI.r).mono ?_
      rintro e wa ⟨oa, rfl, ha, hbn⟩
      replace hI := hI.step hbn
      clear hbn
      go_wp2_with fail
      refine (rShifted_any _ _ _ _ hI.r).mono ?_
      rintro e wb ⟨ob, rfl, hb, hbn⟩
      replace hI := hI.step hbn
      replace ha := ha.below hbn
      clear hbn
      go_wp2_with fail
      refine (equal_any _ _ _ _ _ ha hb).mono ?_
      rintro e wc ⟨rfl, hbn⟩
      replace hI := hI.step hbn
      clear hbn ha hb
      rw [decide_eq_true rfl]
      go_wp2_with fail
      refine (tBack_any _ _ _ hI.r).mono ?_
      rintro e wa ⟨oa, rfl, ha, hbn⟩
      replace hI := hI.step hbn
      clear hbn
      go_wp2_with fail
      refine (rBack_any _ _ _ hI.r).mono ?_
      rintro e wb ⟨ob, rfl, hb, hbn⟩
      replace hI := hI.step hbn
      replace ha := ha.below hbn
      clear hbn
      go_wp2_with fail
      refine (equal_any _ _ _ _ _ ha hb).mono ?_
      rintro e wc ⟨rfl, hbn⟩
      replace hI := hI.step hbn
      clear hbn ha hb
      rw [decide_eq_true rfl]
      go_wp2_with fail
      refine (tSum_any _ _ _ _ _ hI.r hI.s).mono ?_
      rintro e wa ⟨oa, rfl, ha, hbn⟩
      replace hI := hI.step hbn
      clear hbn
      go_wp2_with fail
      refine (rSum_any _ _ _ _ _ hI.r hI.s).mono ?_
      rintro e wb ⟨ob, rfl, hb, hbn⟩
      replace hI := hI.step hbn
      replace ha := ha.below hbn
      clear hbn
      go_wp2_with fail
      refine (equal_any _ _ _ _ _ ha hb).mono ?_
      rintro e wc ⟨rfl, hbn⟩
      replace hI := hI.step hbn
      clear hbn ha hb
      rw [decide_eq_true rfl]
      go_wp2_with (first
        | (go_at_call 16; refine (awake_any _).mono ?_; rintro e w1 ⟨rfl, hb1⟩))
      go_ret
      exact ⟨rfl, below_trans hI.b hb1⟩

end Go.Proofs.Ytflhpnhehaokpaa
