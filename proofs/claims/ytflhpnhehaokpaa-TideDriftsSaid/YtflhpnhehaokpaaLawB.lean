/- The walk of the law TideDrifts. -/
import Derived.Test.YtflhpnhehaokpaaV
namespace Go.Proofs.Ytflhpnhehaokpaa
open Go.RowKit

set_option maxHeartbeats 2000000 in
theorem TideDrifts_early (v : Value) (t : List (List Int)) (h n m : Int) (w : World) (hv : RowsAt w v t) (hn : 0 ≤ n ∧ n ≤ 65535)
    (hg : ¬ (wide t = false ∧ vld t = true ∧ hourB h = true ∧ hourB (h + n) = true)) :
    Calls Try.prog 4 #[v, .int .i64 h, .int .u16 n, .int .u16 m] w fun e w' => e = .returned (.bool true) ∧ Below w.heap.size w w' := by
  cases hw : wide t with
  | true =>
    have W := Lib.hid hw
    clear hw hg
    go_enter Try.func4, Try.ntmps4
    go_wp2_with (first
      | (go_at_call 15; refine (wide_any _ _ _ hv).mono ?_; rintro e w' ⟨rfl, rfl⟩; rw [W.out])
      | (go_at_call 22; refine (rValid_any _ _ _ hv).mono ?_; rintro e w' ⟨rfl, rfl⟩; rw [Y.out])
      | (go_at_call_of 23 (Value.int .i64 h); refine (rIsHour_any _ _).mono ?_; rintro e w' ⟨rfl, rfl⟩; rw [HH.out])
      | (go_at_call 23; refine (rIsHour_any _ _).mono ?_; rintro e w' ⟨rfl, rfl⟩; rw [H2.out])
      | (go_at_call 16; refine (awake_any _).mono ?_; rintro e w1 ⟨rfl, hb1⟩))
    go_ret
    exact ⟨rfl, hb1⟩
  | false =>
    have W := Lib.hid hw
    cases hy : vld t with
    | false =>
      have Y := Lib.hid hy
      clear hw hy hg
      go_enter Try.func4, Try.ntmps4
      go_wp2_with (first
        | (go_at_call 15; refine (wide_any _ _ _ hv).mono ?_; rintro e w' ⟨rfl, rfl⟩; rw [W.out])
        | (go_at_call 22; refine (rValid_any _ _ _ hv).mono ?_; rintro e w' ⟨rfl, rfl⟩; rw [Y.out])
        | (go_at_call_of 23 (Value.int .i64 h); refine (rIsHour_any _ _).mono ?_; rintro e w' ⟨rfl, rfl⟩; rw [HH.out])
        | (go_at_call 23; refine (rIsHour_any _ _).mono ?_; rintro e w' ⟨rfl, rfl⟩; rw [H2.out])
        | (go_at_call 16; refine (awake_any _).mono ?_; rintro e w1 ⟨rfl, hb1⟩))
      go_ret
      exact ⟨rfl, hb1⟩
    | true =>
      have Y := Lib.hid hy
      cases hh : hourB h with
      | false =>
        have HH := Lib.hid hh
        clear hw hy hh hg
        go_enter Try.func4, Try.ntmps4
        go_wp2_with (first
          | (go_at_call 15; refine (wide_any _ _ _ hv).mono ?_; rintro e w' ⟨rfl, rfl⟩; rw [W.out])
          | (go_at_call 22; refine (rValid_any _ _ _ hv).mono ?_; rintro e w' ⟨rfl, rfl⟩; rw [Y.out])
          | (go_at_call_of 23 (Value.int .i64 h); refine (rIsHour_any _ _).mono ?_; rintro e w' ⟨rfl, rfl⟩; rw [HH.out])
          | (go_at_call 23; refine (rIsHour_any _ _).mono ?_; rintro e w' ⟨rfl, rfl⟩; rw [H2.out])
          | (go_at_call 16; refine (awake_any _).mono ?_; rintro e w1 ⟨rfl, hb1⟩))
        go_ret
        exact ⟨rfl, hb1⟩
      | true =>
        have HH := Lib.hid hh
        have hb := (hourB_iff h).1 hh
        cases h2 : hourB (h + n) with
        | false =>
          have H2 := Lib.hid h2
          clear hw hy hh h2 hg
          go_enter Try.func4, Try.ntmps4
          go_wp2_with (first
            | (go_at_call 15; refine (wide_any _ _ _ hv).mono ?_; rintro e w' ⟨rfl, rfl⟩; rw [W.out])
            | (go_at_call 22; refine (rValid_any _ _ _ hv).mono ?_; rintro e w' ⟨rfl, rfl⟩; rw [Y.out])
            | (go_at_call_of 23 (Value.int .i64 h); refine (rIsHour_any _ _).mono ?_; rintro e w' ⟨rfl, rfl⟩; rw [HH.out])
            | (go_at_call 23; refine (rIsHour_any _ _).mono ?_; rintro e w' ⟨rfl, rfl⟩; rw [H2.out])
            | (go_at_call 16; refine (awake_any _).mono ?_; rintro e w1 ⟨rfl, hb1⟩))
          go_ret
          exact ⟨rfl, hb1⟩
        | true => exact absurd ⟨hw, hy, hh, h2⟩ hg

set_option maxHeartbeats 2000000 in
theorem TideDrifts_main (v : Value) (t : List (List Int)) (h : Int) (n m : Nat) (w : World) (hv : RowsAt w v t) (hn : n ≤ 65535) (hm : m ≤ 65535)
    (hw : wide t = false) (hy : vld t = true) (hh : hourB h = true) (h2 : hourB (h + n) = true) :
    Calls Try.prog 4 #[v, .int .i64 h, .int .u16 n, .int .u16 m] w fun e w' => e = .returned (.bool true) ∧ Below w.heap.size w w' := by
  have hb := (hourB_iff h).1 hh
  have hb2 := (hourB_iff (h + n)).1 h2
  have ht := (vld_iff t).1 hy
  have hr := ht.rnd_pos
  have hr2 := ht.rnd_le
  have E1 : (acc (spd t) h (rnd t) == acc (spd t) 0 (rnd t)) = true := by rw [beq_iff_eq]; exact acc_whole (spd_per t) _ _
  have E2 := acc_add (spd t) h n m
  have E3 := drift_parts (t := t) h n
  have P := drift_prod ht n
  rw [Int.natCast_ediv] at E3 P
  have E2a : acc (spd t) h n + acc (spd t) (h + n) m ≤ acc (spd t) h (n + m) := by omega
  have E2b : acc (spd t) h (n + m) ≤ acc (spd t) h n + acc (spd t) (h + n) m := by omega
  have E3a : (n : Int) / (rnd t : Int) * acc (spd t) 0 (rnd t) + acc (spd t) h (n % rnd t) ≤ acc (spd t) h n := by omega
  have E3b : acc (spd t) h n ≤ (n : Int) / (rnd t : Int) * acc (spd t) 0 (rnd t) + acc (spd t) h (n % rnd t) := by omega
  have B1 := some_bd ht h n
  have B2 := some_bd ht (h + n) m
  have hdv := IntWalk.tdiv_le n (rnd t) (by omega) (by omega)
  clear E2 E3
  have W := Lib.hid hw
  have Y := Lib.hid hy
  have HH := Lib.hid hh
  have H2 := Lib.hid h2
  have hI := Inv.start hv
  have hmod : (n : Int) % (rnd t : Int) ≤ 1000000 := by have := Nat.mod_lt n hr; rw [← Int.natCast_emod]; omega
  clear hw hy hh h2 hv
  go_enter Try.func4, Try.ntmps4
  go_wp2_with (first
    | (go_at_call 15; refine (wide_any _ _ _ hI.r).mono ?_; rintro e w' ⟨rfl, rfl⟩; rw [W.out])
    | (go_at_call 22; refine (rValid_any _ _ _ hI.r).mono ?_; rintro e w' ⟨rfl, rfl⟩; rw [Y.out])
    | (go_at_call_of 23 (Value.int .i64 h); refine (rIsHour_any _ _).mono ?_; rintro e w' ⟨rfl, rfl⟩; rw [HH.out])
    | (go_at_call 23; refine (rIsHour_any _ _).mono ?_; rintro e w' ⟨rfl, rfl⟩; rw [H2.out])
    | (go_at_call 24; refine (tRound_v _ _ _ hI.r Y.out).mono ?_; rintro e wn ⟨rfl, hbn⟩; replace hI := hI.step hbn; clear hbn)
    | (go_at_call 25; refine (tNet_v _ _ _ hI.r Y.out).mono ?_; rintro e wn ⟨rfl, hbn⟩; replace hI := hI.step hbn; clear hbn)
    | (go_at_call 19; refine (tDrift_v _ _ _ _ _ hI.r Y.out (by omega) (by omega) (by omega) (by omega)).mono ?_; rintro e wn ⟨rfl, hbn⟩; replace hI := hI.step hbn; clear hbn)
    | (go_at_call 16; refine (awake_any _).mono ?_; rintro e w1 ⟨rfl, hb1⟩))
  go_ret
  exact ⟨rfl, below_trans hI.b hb1⟩

theorem TideDrifts_walk (v : Value) (t : List (List Int)) (h n m : Int) (w : World) (hv : RowsAt w v t) (wn : (Lit.int .u16 n).wf = true) (wm : (Lit.int .u16 m).wf = true) :
    Calls Try.prog 4 #[v, .int .i64 h, .int .u16 n, .int .u16 m] w fun e w' => e = .returned (.bool true) ∧ Below w.heap.size w w' := by
  have hn := u16_bd wn
  have hm := u16_bd wm
  by_cases hg : wide t = false ∧ vld t = true ∧ hourB h = true ∧ hourB (h + n) = true
  · obtain ⟨n, rfl⟩ := Int.eq_ofNat_of_zero_le hn.1
    obtain ⟨m, rfl⟩ := Int.eq_ofNat_of_zero_le hm.1
    exact TideDrifts_main v t h n m w hv (by omega) (by omega) hg.1 hg.2.1 hg.2.2.1 hg.2.2.2
  · exact TideDrifts_early v t h n m w hv hn hg

end Go.Proofs.Ytflhpnhehaokpaa
