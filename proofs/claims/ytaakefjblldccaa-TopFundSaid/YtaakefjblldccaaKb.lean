/- Small lemmas for the walks of laws. -/
import Derived.Test.YtaakefjblldccaaAw
namespace Go.Proofs.Ytaakefjblldccaa
open Go.RowKit

def KB (w W : World) : Prop := Below w.heap.size w W
theorem KB.refl (w : World) : KB w w := Below.refl _ _
theorem KB.alloc {w W : World} (h : KB w W) (o : Obj) : KB w (W.alloc o) := Below.alloc h h.size o
theorem KB.drew {w W : World} (h : KB w W) : KB w W.drew := Below.drew h
theorem KB.call {w W w2 : World} (h : KB w W) (hb : Below W.heap.size W w2) : KB w w2 := Below.trans h (hb.mono h.size)

theorem u16_bounds {x : Int} (h : (Lit.int .u16 x).wf = true) : 0 ≤ x ∧ x ≤ 65535 := by
  simp only [Lit.wf] at h
  have h1 : IntKind.u16.min = 0 := rfl
  have h2 : IntKind.u16.max = 65535 := rfl
  simp [h1, h2] at h
  omega

theorem shareV_bad {c : List Int} {n r : Int} (h : shareE c n r ≠ 0) : shareV c n r = [] := by unfold shareV; rw [if_neg h]
theorem shareE_zero {c : List Int} {n r : Int} (h : shareE c n r = 0) : askE c n = 0 ∧ 1 ≤ r ∧ r ≤ 4 := by
  unfold shareE at h
  split at h
  · split at h
    · rename_i h1 h2
      exact ⟨h1, (betw_iff _ _ _).1 h2⟩
    · omega
  · rename_i h1
    exact absurd h h1

theorem askE_of {c : List Int} {n : Int} (hc : Cvl c) (h0 : 0 ≤ n) (h1 : n ≤ tot c) : askE c n = 0 := by
  unfold askE
  rw [(cvl_iff c).2 hc, if_pos rfl, (betw_iff _ _ _).2 ⟨h0, h1⟩, if_pos rfl]

end Go.Proofs.Ytaakefjblldccaa
