/- The walk of the law TideLikes. -/
import Derived.Test.YtflhpnhehaokpaaLawF
namespace Go.Proofs.Ytflhpnhehaokpaa
open Go.RowKit


set_option maxHeartbeats 2000000 in
theorem TideLikes_walk (v x : Value) (t u : List (List Int)) (w : World) (hv : RowsAt w v t) (hx : RowsAt w x u) :
    Calls Try.prog 9 #[v, x] w fun e w' => e = .returned (.bool true) ∧ Below w.heap.size w w' := by
  cases hw : wide t with
  | true =>
    have W := Lib.hid hw
    clear hw
    go_enter Try.func9, Try.ntmps9
    go_wp2_with fail
    refine (wide_any _ _ _ hv).mono ?_
    rintro e w' ⟨rfl, rfl⟩
    rw [W.out]
    go_wp2_with (first
      | (go_at_call 16; refine (awake_any _).mono ?_; rintro e w1 ⟨rfl, hb1⟩))
    go_ret
    exact ⟨rfl, hb1⟩
  | false =>
    have W := Lib.hid hw
    clear hw
    cases hw2 : wide u with
    | true =>
      have W2 := Lib.hid hw2
      clear hw2
      go_enter Try.func9, Try.ntmps9
      go_wp2_with fail
      refine (wide_any _ _ _ hv).mono ?_
      rintro e w' ⟨rfl, rfl⟩
      rw [W.out]
      go_wp2_with fail
      refine (wide_any _ _ _ hx).mono ?_
      rintro e w' ⟨rfl, rfl⟩
      rw [W2.out]
      go_wp2_with (first
        | (go_at_call 16; refine (awake_any _).mono ?_; rintro e w1 ⟨rfl, hb1⟩))
      go_ret
      exact ⟨rfl, hb1⟩
    | false =>
      have W2 := Lib.hid hw2
      clear hw2
      have hI := Inv2.start hv hx
      cases ht : vld t <;> cases hu : vld u
      all_goals
        have T := Lib.hid ht
        have U := Lib.hid hu
        clear ht hu
        go_enter Try.func9, Try.ntmps9
        go_wp2_with fail
        refine (wide_any _ _ _ hv).mono ?_
        rintro e w' ⟨rfl, rfl⟩
        rw [W.out]
        go_wp2_with fail
        refine (wide_any _ _ _ hx).mono ?_
        rintro e w' ⟨rfl, rfl⟩
        rw [W2.out]
        clear hv hx
      · go_wp2_with fail
        refine (tSame_any _ _ _ _ _ hI.r hI.s).mono ?_
        rintro e wn ⟨rfl, hbn⟩
        replace hI := hI.step hbn
        clear hbn
        rw [qs_no1 T.out, qse_no1 T.out]
        go_wp2_with fail
        refine (tOnce_no _ _ _ hI.r T.out).mono ?_
        rintro e wn2 ⟨ov, rfl, ho, hbn⟩
        replace hI := hI.step hbn
        clear hbn
        go_wp2_with fail
        refine (tOnce_no _ _ _ hI.s U.out).mono ?_
        rintro e wn3 ⟨ou, rfl, hu', hbn⟩
        replace hI := hI.step hbn
        replace ho := ho.below hbn
        clear hbn
        go_wp2_with (first
          | (go_at_call 16; refine (awake_any _).mono ?_; rintro e w1 ⟨rfl, hb1⟩))
        go_ret
        exact ⟨rfl, below_trans hI.b hb1⟩
      · go_wp2_with fail
        refine (tSame_any _ _ _ _ _ hI.r hI.s).mono ?_
        rintro e wn ⟨rfl, hbn⟩
        replace hI := hI.step hbn
        clear hbn
        rw [qs_no1 T.out, qse_no1 T.out]
        go_wp2_with fail
        refine (tOnce_no _ _ _ hI.r T.out).mono ?_
        rintro e wn2 ⟨ov, rfl, ho, hbn⟩
        replace hI := hI.step hbn
        clear hbn
        go_wp2_with fail
        refine (tOnce_yes _ _ _ hI.s U.out).mono ?_
        rintro e wn3 ⟨ou, rfl, hu', hbn⟩
        replace hI := hI.step hbn
        replace ho := ho.below hbn
        clear hbn
        go_wp2_with (first
          | (go_at_call 16; refine (awake_any _).mono ?_; rintro e w1 ⟨rfl, hb1⟩))
        go_ret
        exact ⟨rfl, below_trans hI.b hb1⟩
      · go_wp2_with fail
        refine (tSame_any _ _ _ _ _ hI.r hI.s).mono ?_
        rintro e wn ⟨rfl, hbn⟩
        replace hI := hI.step hbn
        clear hbn
        rw [qs_no2 U.out, qse_no2 U.out]
        go_wp2_with fail
        refine (tOnce_yes _ _ _ hI.r T.out).mono ?_
        rintro e wn2 ⟨ov, rfl, ho, hbn⟩
        replace hI := hI.step hbn
        clear hbn
        go_wp2_with fail
        refine (tOnce_no _ _ _ hI.s U.out).mono ?_
        rintro e wn3 ⟨ou, rfl, hu', hbn⟩
        replace hI := hI.step hbn
        replace ho := ho.below hbn
        clear hbn
        go_wp2_with (first
          | (go_at_call 16; refine (awake_any _).mono ?_; rintro e w1 ⟨rfl, hb1⟩))
        go_ret
        exact ⟨rfl, below_trans hI.b hb1⟩
      · go_wp2_with fail
        refine (tSame_any _ _ _ _ _ hI.r hI.s).mono ?_
        rintro e wn ⟨rfl, hbn⟩
        replace hI := hI.step hbn
        clear hbn
        rw [qs_yes T.out U.out, qse_yes T.out U.out]
        go_wp2_with fail
        refine (tOnce_yes _ _ _ hI.r T.out).mono ?_
        rintro e wn2 ⟨ov, rfl, ho, hbn⟩
        replace hI := hI.step hbn
        clear hbn
        go_wp2_with fail
        refine (tOnce_yes _ _ _ hI.s U.out).mono ?_
        rintro e wn3 ⟨ou, rfl, hu', hbn⟩
        replace hI := hI.step hbn
        replace ho := ho.below hbn
        clear hbn
        go_wp2_with fail
        refine (sameInts_any _ _ _ _ _ ho hu').mono ?_
        rintro e wn4 ⟨rfl, hbn⟩
        replace hI := hI.step hbn
        clear hbn
        go_wp2_with (first
          | (go_at_call 16; refine (awake_any _).mono ?_; rintro e w1 ⟨rfl, hb1⟩))
        go_ret
        exact ⟨rfl, below_trans hI.b hb1⟩

end Go.Proofs.Ytflhpnhehaokpaa
