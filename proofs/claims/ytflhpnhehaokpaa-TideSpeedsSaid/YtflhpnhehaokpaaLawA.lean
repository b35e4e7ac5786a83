/- The walk of the law TideSpeeds. -/
import Derived.Test.YtflhpnhehaokpaaLaw
namespace Go.Proofs.Ytflhpnhehaokpaa
open Go.RowKit

set_option maxHeartbeats 1000000 in
theorem TideSpeeds_walk (v : Value) (t : List (List Int)) (h n : Int) (w : World) (hv : RowsAt w v t) :
    Calls Try.prog 3 #[v, .int .i64 h, .int .i64 n] w fun e w' => e = .returned (.bool true) ∧ Below w.heap.size w w' := by
  cases hw : wide t with
  | true =>
    have W := Lib.hid hw
    clear hw
    go_enter Try.func3, Try.ntmps3
    go_wp2_with (first
      | (go_at_call 15; refine (wide_any _ _ _ hv).mono ?_; rintro e w' ⟨rfl, rfl⟩; rw [W.out])
      | (go_at_call 16; refine (awake_any _).mono ?_; rintro e w1 ⟨rfl, hb1⟩))
    go_ret
    exact ⟨rfl, hb1⟩
  | false =>
    have W := Lib.hid hw
    clear hw
    go_enter Try.func3, Try.ntmps3
    go_wp2_with (first
      | (go_at_call 15; refine (wide_any _ _ _ hv).mono ?_; rintro e w' ⟨rfl, rfl⟩; rw [W.out])
      | (go_at_call 17; refine (tSpeed_any _ _ _ _ hv).mono ?_; rintro e w1 ⟨rfl, hb1⟩; have hv1 := hv.below hb1)
      | (go_at_call 18; refine (rSpeed_any _ _ _ _ hv1).mono ?_; rintro e w1' ⟨rfl, rfl⟩)
      | (go_at_call 19; refine (tDrift_any _ _ _ _ _ hv1).mono ?_; rintro e w2 ⟨rfl, hb2⟩; have hv2 := hv1.below hb2)
      | (go_at_call 20; refine (rDrift_any _ _ _ _ _ hv2).mono ?_; rintro e w3 ⟨rfl, hb3⟩; have hv3 := hv2.below hb3)
      | (go_at_call 21; refine (valid_any _ _ _ hv3).mono ?_; rintro e w3' ⟨rfl, rfl⟩)
      | (go_at_call 22; refine (rValid_any _ _ _ hv3).mono ?_; rintro e w3' ⟨rfl, rfl⟩)
      | (go_at_call 16; refine (awake_any _).mono ?_; rintro e w4 ⟨rfl, hb4⟩))
    go_ret
    exact ⟨rfl, below_trans hb1 (below_trans hb2 (below_trans hb3 hb4))⟩

end Go.Proofs.Ytflhpnhehaokpaa
