/- Round as told (out of the tide's texts). -/
import Derived.Test.YtbgflacfemeblaaDoorC
import Derived.Test.YtbgflacfemeblaaDoorD
namespace Go.Proofs.YtbgflacfemeblaaDoor
open Go.RowKit

theorem calls_below {P : Program} {f : Nat} {args : Array Value} {w : World} {r : Ending} (h : Calls P f args w fun e w' => e = r ∧ w = w') : Calls P f args w fun e w' => e = r ∧ Below w.heap.size w w' :=
  h.mono fun _ _ ⟨he, hw⟩ => ⟨he, by rw [← hw]; exact Below.refl _ _⟩

set_option maxHeartbeats 400000 in
theorem tRound_any (v : Value) (t : List (List Int)) (w : World) (hv : RowsAt w v t) :
    Calls Tryd.prog 11 #[v] w fun e w' => e = .returned (.tuple #[.int .i64 (qi t true (rnd t : Nat)), .int .i64 (qe t true)]) ∧ Below w.heap.size w w' := by
  have HA := askedInt_any v t true 20 #[] (rnd t : Nat) _ hv (enters_of Tryd.func20 (by kernel_rfl) rfl)
    (fun hy _ W tv hr hb => round_any tv t W hr ((vld_iff t).1 hy))
  have H := Lib.hid HA
  clear HA hv
  go_enter Tryd.func11, Tryd.ntmps11
  go_wp2_with (go_at_call 19; refine H.out.mono ?_; rintro e w1 ⟨rfl, hb1⟩)
  go_ret2
  exact ⟨rfl, hb1⟩

end Go.Proofs.YtbgflacfemeblaaDoor
