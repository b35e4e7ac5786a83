/- The walk of the law TideEnds. -/
import Derived.Test.YtflhpnhehaokpaaW
namespace Go.Proofs.Ytflhpnhehaokpaa
open Go.RowKit

set_option maxHeartbeats 2000000 in
theorem TideEnds_walk (v : Value) (t : List (List Int)) (a n : Int) (w : World) (hv : RowsAt w v t) :
    Calls Try.prog 12 #[v, .int .i64 a, .int .i64 n] w fun e w' => e = .returned (.bool true) ∧ Below w.heap.size w w' := by
  cases hw : wide t with
  | true =>
    have W := Lib.hid hw
    clear hw
    go_enter Try.func12, Try.ntmps12
    go_wp2_with (first
      | (go_at_call 15; refine (wide_any _ _ _ hv).mono ?_; rintro e w' ⟨rfl, rfl⟩; rw [W.out])
      | (go_at_call 16; refine (awake_any _).mono ?_; rintro e w1 ⟨rfl, hb1⟩))
    go_ret
    exact ⟨rfl, hb1⟩
  | false =>
    have W := Lib.hid hw
    have hI := Inv.start hv
    clear hw hv
    go_enter Try.func12, Try.ntmps12
    go_wp2_with (first
      | (go_at_call 15; refine (wide_any _ _ _ hI.r).mono ?_; rintro e w' ⟨rfl, rfl⟩; rw [W.out])
      | (go_at_call 43; refine (tSlack_any _ _ _ _ hI.r).mono ?_; rintro e wn ⟨rfl, hbn⟩; replace hI := hI.step hbn; clear hbn)
      | (go_at_call 44; refine (rSlack_any _ _ _ _ hI.r).mono ?_; rintro e wn ⟨rfl, hbn⟩; replace hI := hI.step hbn; clear hbn)
      | (go_at_call 45; refine (tHighest_any _ _ _ hI.r).mono ?_; rintro e wn ⟨rfl, hbn⟩; replace hI := hI.step hbn; clear hbn)
      | (go_at_call 46; refine (rHighest_any _ _ _ hI.r).mono ?_; rintro e wn ⟨rfl, hbn⟩; replace hI := hI.step hbn; clear hbn)
      | (go_at_call 47; refine (tFarthest_any _ _ _ _ hI.r).mono ?_; rintro e wn ⟨rfl, hbn⟩; replace hI := hI.step hbn; clear hbn)
      | (go_at_call 48; refine (rFarthest_any _ _ _ _ hI.r).mono ?_; rintro e wn ⟨rfl, hbn⟩; replace hI := hI.step hbn; clear hbn)
      | (go_at_call 16; refine (awake_any _).mono ?_; rintro e w1 ⟨rfl, hb1⟩))
    go_ret
    exact ⟨rfl, below_trans hI.b hb1⟩

end Go.Proofs.Ytflhpnhehaokpaa
