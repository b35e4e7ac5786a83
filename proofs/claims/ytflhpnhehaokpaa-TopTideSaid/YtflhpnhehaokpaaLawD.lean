/- The walk of the law TideBacks. -/
import Derived.Test.YtflhpnhehaokpaaM
import Derived.Test.YtflhpnhehaokpaaN
namespace Go.Proofs.Ytflhpnhehaokpaa
open Go.RowKit

theorem tBack_v (v : Value) (t : List (List Int)) (w : World) (hv : RowsAt w v t) (hy : vld t = true) :
    Calls Try.prog 28 #[v] w (GivesRE (backT t) 0 w) := by
  have := tBack_any v t w hv
  rwa [qr_yes hy, qe_yes hy] at this

set_option maxRecDepth 100000 in
set_option maxHeartbeats 2000000 in
theorem TideBacks_early (v : Value) (t : List (List Int)) (h n : Int) (w : World) (hv : RowsAt w v t) (hn : 0 ≤ n ∧ n ≤ 65535)
    (hg : ¬ (wide t = false ∧ vld t = true ∧ hourB h = true ∧ hourB (1 - h - n) = true)) :
    Calls Try.prog 6 #[v, .int .i64 h, .int .u16 n] w fun e w' => e = .returned (.bool true) ∧ Below w.heap.size w w' := by
  cases hw : wide t with
  | true =>
    have W := Lib.hid hw
    clear hw hg
    go_enter Try.func6, Try.ntmps6
    go_wp2_with (first
      | (go_at_call 15; refine (wide_any _ _ _ hv).mono ?_; rintro e w' ⟨rfl, rfl⟩; rw [W.out])
      | (go_at_call 22; refine (rValid_any _ _ _ hv).mono ?_; rintro e w' ⟨rfl, rfl⟩; rw [Y.out])
      | (go_at_call_of 23 (Value.int .i64 h); refine (rIsHour_any _ _).mono ?_; rintro e w' ⟨rfl, rfl⟩; rw [HH.out])
      | (go_at_call 23; refine (rIsHour_any _ _).mono ?_; rintro e w' ⟨rfl, rfl⟩; rw [H2.out])
      | (go_at_call 16; refine (awake_any _).mono ?_; rintro e w1 ⟨rfl, hb1⟩))
    go_ret
    exact ⟨rfl, hb1⟩
  | false =>
    have W := Lib.hid hw
    cases hy : vld t with
    | false =>
      have Y := Lib.hid hy
      clear hw hy hg
      go_enter Try.func6, Try.ntmps6
      go_wp2_with (first
        | (go_at_call 15; refine (wide_any _ _ _ hv).mono ?_; rintro e w' ⟨rfl, rfl⟩; rw [W.out])
        | (go_at_call 22; refine (rValid_any _ _ _ hv).mono ?_; rintro e w' ⟨rfl, rfl⟩; rw [Y.out])
        | (go_at_call_of 23 (Value.int .i64 h); refine (rIsHour_any _ _).mono ?_; rintro e w' ⟨rfl, rfl⟩; rw [HH.out])
        | (go_at_call 23; refine (rIsHour_any _ _).mono ?_; rintro e w' ⟨rfl, rfl⟩; rw [H2.out])
        | (go_at_call 16; refine (awake_any _).mono ?_; rintro e w1 ⟨rfl, hb1⟩))
      go_ret
      exact ⟨rfl, hb1⟩
    | true =>
      have Y := Lib.hid hy
      cases hh : hourB h with
      | false =>
        have HH := Lib.hid hh
        clear hw hy hh hg
        go_enter Try.func6, Try.ntmps6
        go_wp2_with (first
          | (go_at_call 15; refine (wide_any _ _ _ hv).mono ?_; rintro e w' ⟨rfl, rfl⟩; rw [W.out])
          | (go_at_call 22; refine (rValid_any _ _ _ hv).mono ?_; rintro e w' ⟨rfl, rfl⟩; rw [Y.out])
          | (go_at_call_of 23 (Value.int .i64 h); refine (rIsHour_any _ _).mono ?_; rintro e w' ⟨rfl, rfl⟩; rw [HH.out])
          | (go_at_call 23; refine (rIsHour_any _ _).mono ?_; rintro e w' ⟨rfl, rfl⟩; rw [H2.out])
          | (go_at_call 16; refine (awake_any _).mono ?_; rintro e w1 ⟨rfl, hb1⟩))
        go_ret
        exact ⟨rfl, hb1⟩
      | true =>
        have HH := Lib.hid hh
        have hb := (hourB_iff h).1 hh
        cases h2 : hourB (1 - h - n) with
        | false =>
          have H2 := Lib.hid h2
          clear hw hy hh h2 hg
          go_enter Try.func6, Try.ntmps6
          go_wp2_with (first
            | (go_at_call 15; refine (wide_any _ _ _ hv).mono ?_; rintro e w' ⟨rfl, rfl⟩; rw [W.out])
            | (go_at_call 22; refine (rValid_any _ _ _ hv).mono ?_; rintro e w' ⟨rfl, rfl⟩; rw [Y.out])
            | (go_at_call_of 23 (Value.int .i64 h); refine (rIsHour_any _ _).mono ?_; rintro e w' ⟨rfl, rfl⟩; rw [HH.out])
            | (go_at_call 23; refine (rIsHour_any _ _).mono ?_; rintro e w' ⟨rfl, rfl⟩; rw [H2.out])
            | (go_at_call 16; refine (awake_any _).mono ?_; rintro e w1 ⟨rfl, hb1⟩))
          go_ret
          exact ⟨rfl, hb1⟩
        | true => exact absurd ⟨hw, hy, hh, h2⟩ hg

set_option maxRecDepth 100000 in
set_option maxHeartbeats 2000000 in
theorem TideBacks_main (v : Value) (t : List (List Int)) (h : Int) (n : Nat) (w : World) (hv : RowsAt w v t) (hn : n ≤ 65535)
    (hw : wide t = false) (hy : vld t = true) (hh : hourB h = true) (h2 : hourB (1 - h - n) = true) :
    Calls Try.prog 6 #[v, .int .i64 h, .int .u16 n] w fun e w' => e = .returned (.bool true) ∧ Below w.heap.size w w' := by
  have hb := (hourB_iff h).1 hh
  have hb2 := (hourB_iff _).1 h2
  have ht := (vld_iff t).1 hy
  have hyb : vld (backT t) = true := (vld_iff _).2 (vld_backT ht)
  have BB := Lib.hid (back_back ht)
  have E := acc_backT ht h n
  have B1 := some_bd ht (1 - h - n) n
  have Ea : acc (spd (backT t)) h n ≤ -acc (spd t) (1 - h - n) n := by omega
  have Eb : -acc (spd t) (1 - h - n) n ≤ acc (spd (backT t)) h n := by omega
  have W := Lib.hid hw
  have Y := Lib.hid hy
  have YB := Lib.hid hyb
  have HH := Lib.hid hh
  have H2 := Lib.hid h2
  have hI := Inv.start hv
  clear hw hy hyb hh h2 hv E
  go_enter Try.func6, Try.ntmps6
  go_wp2_with (first
    | (go_at_call 15; refine (wide_any _ _ _ hI.r).mono ?_; rintro e w' ⟨rfl, rfl⟩; rw [W.out])
    | (go_at_call 22; refine (rValid_any _ _ _ hI.r).mono ?_; rintro e w' ⟨rfl, rfl⟩; rw [Y.out])
    | (go_at_call_of 23 (Value.int .i64 h); refine (rIsHour_any _ _).mono ?_; rintro e w' ⟨rfl, rfl⟩; rw [HH.out])
    | (go_at_call 23; refine (rIsHour_any _ _).mono ?_; rintro e w' ⟨rfl, rfl⟩; rw [H2.out])
    | (go_at_call_of 28 v; refine (tBack_v _ _ _ hI.r Y.out).mono ?_; rintro e wn ⟨ov, rfl, ho, hbn⟩; replace hI := hI.step hbn; clear hbn))
  refine (tBack_v _ _ _ ho YB.out).mono ?_
  rintro e wn2 ⟨ov2, rfl, ho2, hbn⟩
  replace hI := hI.step hbn
  replace ho := ho.below hbn
  clear hbn
  rw [BB.out] at ho2
  go_wp2_with fail
  refine (tDrift_v _ _ _ _ _ ho YB.out (by omega) (by omega) (by omega) (by omega)).mono ?_
  rintro e wn3 ⟨rfl, hbn⟩
  replace hI := hI.step hbn
  replace ho2 := ho2.below hbn
  clear hbn ho
  go_wp2_with fail
  refine (tDrift_v _ _ _ _ _ hI.r Y.out (by omega) (by omega) (by omega) (by omega)).mono ?_
  rintro e wn4 ⟨rfl, hbn⟩
  replace hI := hI.step hbn
  replace ho2 := ho2.below hbn
  clear hbn
  rw [Int.toNat_natCast]
  go_wp2_with (first
    | (go_at_call 29; refine (equal_any _ _ _ _ _ ho2 hI.r).mono ?_; rintro e wn ⟨rfl, hbn⟩; replace hI := hI.step hbn; clear hbn; rw [decide_eq_true rfl])
    | (go_at_call 16; refine (awake_any _).mono ?_; rintro e w1 ⟨rfl, hb1⟩))
  go_ret
  exact ⟨rfl, below_trans hI.b hb1⟩

theorem TideBacks_walk (v : Value) (t : List (List Int)) (h n : Int) (w : World) (hv : RowsAt w v t) (wn : (Lit.int .u16 n).wf = true) :
    Calls Try.prog 6 #[v, .int .i64 h, .int .u16 n] w fun e w' => e = .returned (.bool true) ∧ Below w.heap.size w w' := by
  have hn := u16_bd wn
  by_cases hg : wide t = false ∧ vld t = true ∧ hourB h = true ∧ hourB (1 - h - n) = true
  · obtain ⟨n, rfl⟩ := Int.eq_ofNat_of_zero_le hn.1
    exact TideBacks_main v t h n w hv (by omega) hg.1 hg.2.1 hg.2.2.1 hg.2.2.2
  · exact TideBacks_early v t h n w hv hn hg

end Go.Proofs.Ytflhpnhehaokpaa
