/- The walk of the law TideRounds. -/
import Derived.Test.YtflhpnhehaokpaaH
namespace Go.Proofs.Ytflhpnhehaokpaa
open Go.RowKit

set_option maxHeartbeats 2000000 in
theorem TideRounds_walk (v : Value) (t : List (List Int)) (w : World) (hv : RowsAt w v t) :
    Calls Try.prog 7 #[v] w fun e w' => e = .returned (.bool true) ∧ Below w.heap.size w w' := by
  have hI := Inv.start hv
  cases hw : wide t with
  | true =>
    have W := Lib.hid hw
    clear hw
    go_enter Try.func7, Try.ntmps7
    go_wp2_with (first
      | (go_at_call 15; refine (wide_any _ _ _ hv).mono ?_; rintro e w' ⟨rfl, rfl⟩; rw [W.out])
      | (go_at_call 16; refine (awake_any _).mono ?_; rintro e w1 ⟨rfl, hb1⟩))
    go_ret
    exact ⟨rfl, hb1⟩
  | false =>
    have W := Lib.hid hw
    clear hw hv
    go_enter Try.func7, Try.ntmps7
    go_wp2_with (first
      | (go_at_call 15; refine (wide_any _ _ _ hI.r).mono ?_; rintro e w' ⟨rfl, rfl⟩; rw [W.out])
      | (go_at_call 24; refine (tRound_any _ _ _ hI.r).mono ?_; rintro e wn ⟨rfl, hbn⟩; replace hI := hI.step hbn; clear hbn)
      | (go_at_call 30; refine (rRound_any _ _ _ hI.r).mono ?_; rintro e wn ⟨rfl, hbn⟩; replace hI := hI.step hbn; clear hbn)
      | (go_at_call 25; refine (tNet_any _ _ _ hI.r).mono ?_; rintro e wn ⟨rfl, hbn⟩; replace hI := hI.step hbn; clear hbn)
      | (go_at_call 31; refine (rNet_any _ _ _ hI.r).mono ?_; rintro e wn ⟨rfl, hbn⟩; replace hI := hI.step hbn; clear hbn)
      | (go_at_call 26; refine (tBeat_any _ _ _ hI.r).mono ?_; rintro e wn ⟨rfl, hbn⟩; replace hI := hI.step hbn; clear hbn)
      | (go_at_call 32; refine (rBeat_any _ _ _ hI.r).mono ?_; rintro e wn ⟨rfl, hbn⟩; replace hI := hI.step hbn; clear hbn)
      | (go_at_call 27; refine (tOnce_any _ _ _ hI.r).mono ?_; rintro e wn ⟨ov, rfl, ho, hbn⟩; replace hI := hI.step hbn; clear hbn)
      | (go_at_call 33; refine (rOnce_any _ _ _ hI.r).mono ?_; rintro e wn ⟨ou, rfl, hu, hbn⟩; replace ho := ho.below hbn; replace hI := hI.step hbn; clear hbn)
      | (go_at_call 34; refine (sameInts_any _ _ _ _ _ ho hu).mono ?_; rintro e wn ⟨rfl, hbn⟩; replace hI := hI.step hbn; clear hbn; rw [decide_eq_true rfl])
      | (go_at_call 16; refine (awake_any _).mono ?_; rintro e w1 ⟨rfl, hb1⟩))
    go_ret
    exact ⟨rfl, below_trans hI.b hb1⟩

end Go.Proofs.Ytflhpnhehaokpaa
