/- The walks of the laws TideSames and TideLikes. -/
import Derived.Test.YtflhpnhehaokpaaI
namespace Go.Proofs.Ytflhpnhehaokpaa
open Go.RowKit

/-- The invariant for two tides. -/
structure Inv2 (w : World) (v x : Value) (t u : List (List Int)) (wc : World) : Prop where
  b : Below w.heap.size w wc
  r : RowsAt wc v t
  s : RowsAt wc x u

theorem Inv2.start {w : World} {v x : Value} {t u : List (List Int)} (h : RowsAt w v t) (k : RowsAt w x u) : Inv2 w v x t u w := ⟨Below.refl _ _, h, k⟩
theorem Inv2.step {w wc wn : World} {v x : Value} {t u : List (List Int)} (h : Inv2 w v x t u wc) (hb : Below wc.heap.size wc wn) : Inv2 w v x t u wn := ⟨below_trans h.b hb, h.r.below hb, h.s.below hb⟩

set_option maxHeartbeats 1000000 in
theorem TideSames_walk (v x : Value) (t u : List (List Int)) (w : World) (hv : RowsAt w v t) (hx : RowsAt w x u) :
    Calls Try.prog 8 #[v, x] w fun e w' => e = .returned (.bool true) ∧ Below w.heap.size w w' := by
  cases hw : wide t with
  | true =>
    have W := Lib.hid hw
    clear hw
    go_enter Try.func8, Try.ntmps8
    go_wp2_with fail
    refine (wide_any _ _ _ hv).mono ?_
    rintro e w' ⟨rfl, rfl⟩
    rw [W.out]
    go_wp2_with (first
      | (go_at_call 16; refine (awake_any _).mono ?_; rintro e w1 ⟨rfl, hb1⟩))
    go_ret
    exact ⟨rfl, hb1⟩
  | false =>
    have W := Lib.hid hw
    clear hw
    cases hw2 : wide u with
    | true =>
      have W2 := Lib.hid hw2
      clear hw2
      go_enter Try.func8, Try.ntmps8
      go_wp2_with fail
      refine (wide_any _ _ _ hv).mono ?_
      rintro e w' ⟨rfl, rfl⟩
      rw [W.out]
      go_wp2_with fail
      refine (wide_any _ _ _ hx).mono ?_
      rintro e w' ⟨rfl, rfl⟩
      rw [W2.out]
      go_wp2_with (first
        | (go_at_call 16; refine (awake_any _).mono ?_; rintro e w1 ⟨rfl, hb1⟩))
      go_ret
      exact ⟨rfl, hb1⟩
    | false =>
      have W2 := Lib.hid hw2
      clear hw2
      have hI := Inv2.start hv hx
      go_enter Try.func8, Try.ntmps8
      go_wp2_with fail
      refine (wide_any _ _ _ hv).mono ?_
      rintro e w' ⟨rfl, rfl⟩
      rw [W.out]
      go_wp2_with fail
      refine (wide_any _ _ _ hx).mono ?_
      rintro e w' ⟨rfl, rfl⟩
      rw [W2.out]
      clear hv hx
      go_wp2_with (first
        | (go_at_call 35; refine (tSame_any _ _ _ _ _ hI.r hI.s).mono ?_; rintro e wn ⟨rfl, hbn⟩; replace hI := hI.step hbn; clear hbn)
        | (go_at_call 36; refine (rSame_any _ _ _ _ _ hI.r hI.s).mono ?_; rintro e wn ⟨rfl, hbn⟩; replace hI := hI.step hbn; clear hbn)
        | (go_at_call 16; refine (awake_any _).mono ?_; rintro e w1 ⟨rfl, hb1⟩))
      go_ret
      exact ⟨rfl, below_trans hI.b hb1⟩

end Go.Proofs.Ytflhpnhehaokpaa
