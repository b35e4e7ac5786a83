/- Contracts: whether two awards are those of the garment; Agrees of both. -/
import Derived.Test.YtaakefjblldccaaK
import Derived.Test.YtaakefjblldccaaB
namespace Go.Proofs.Ytaakefjblldccaa
open Go.RowKit

/-- Two awards are what the garment gives of both together. -/
def fairB (a b : Int) (x y : Rat2) : Bool :=
  x.1 * y.2 - max (x.1 * y.2 + y.1 * x.2 - b * (x.2 * y.2)) 0 == y.1 * x.2 - max (x.1 * y.2 + y.1 * x.2 - a * (x.2 * y.2)) 0

set_option maxHeartbeats 2000000 in
theorem fair_any (a b n d m f : Int) (w : World) (h1 : 0 ≤ n * f ∧ n * f ≤ 1000000000000000) (h2 : 0 ≤ m * d ∧ m * d ≤ 1000000000000000) (h3 : 0 ≤ d * f ∧ d * f ≤ 1000000000000)
    (h4 : 0 ≤ a * (d * f) ∧ a * (d * f) ≤ 1000000000000000) (h5 : 0 ≤ b * (d * f) ∧ b * (d * f) ≤ 1000000000000000) :
    Calls Try.prog 62 #[.int .i64 a, .int .i64 b, .agg #[.int .i64 n, .int .i64 d], .agg #[.int .i64 m, .int .i64 f]] w fun e w' => e = .returned (.bool (fairB a b (n, d) (m, f))) ∧ Below w.heap.size w w' := by
  have F : Hid (fairB a b (n, d) (m, f) = (n * f - max (n * f + m * d - b * (d * f)) 0 == m * d - max (n * f + m * d - a * (d * f)) 0)) := Lib.hid rfl
  rw [F.out]
  go_enter Try.func62, Try.ntmps62
  go_wp2
  refine wp_region_quiet_lit (by kernel_rfl) (by kernel_rfl) ?_
  repeat (any_goals (first | go_big_quiet_step (fail) | quiet_step (fail)))
  all_goals (refine wpQuiet_nil ?_; intro _ hw'; obtain ⟨nq, hw''⟩ := hw'; subst hw'')
  all_goals go_wp2
  all_goals go_ret
  all_goals refine ⟨ret_b (by rw [Bool.eq_iff_iff, beq_iff_eq, beq_iff_eq]; omega), ?_⟩
  all_goals
    refine below_drewN ?_ _
    repeat (first | assumption | exact Below.refl _ _ | refine Below.setCell ?_ (by first | omega | (simp; done) | (simp; omega)) _ | refine Below.drew ?_ | refine Below.alloc ?_ (by first | omega | (simp; done) | (simp; omega)) _)

end Go.Proofs.Ytaakefjblldccaa
