/- The walk of the law TideTops. -/
import Derived.Test.YtflhpnhehaokpaaW
import Derived.Test.YtflhpnhehaokpaaV
namespace Go.Proofs.Ytflhpnhehaokpaa
open Go.RowKit

theorem fm_facts (f : Nat → Int) {r : Nat} (hr : 0 < r) : 0 ≤ fmI f r ∧ fmI f r < r ∧ f (fmI f r).toNat = fmV f r ∧ ∀ j, j < r → f j ≤ fmV f r := by
  have h := fmTo_spec f r hr
  unfold fmI fmV
  refine ⟨by omega, by have := h.lt; omega, ?_, h.le⟩
  rw [Int.toNat_natCast]
  exact h.eq

theorem top_speed {t : List (List Int)} (ht : Vld t) : 0 ≤ fmI (spN t) (rnd t) ∧ fmI (spN t) (rnd t) < rnd t ∧ spd t (fmI (spN t) (rnd t)) = fmV (spN t) (rnd t) ∧ ∀ x : Int, spd t x ≤ fmV (spN t) (rnd t) := by
  have hr := ht.rnd_pos
  obtain ⟨h0, h1, h2, h3⟩ := fm_facts (spN t) hr
  refine ⟨h0, h1, ?_, fun x => ?_⟩
  · have h4 : spd t ((fmI (spN t) (rnd t)).toNat : Int) = fmV (spN t) (rnd t) := h2
    rwa [Int.toNat_of_nonneg h0] at h4
  · have hx0 : 0 ≤ x % (rnd t : Int) := Int.emod_nonneg _ (by omega)
    have hx1 : x % (rnd t : Int) < rnd t := Int.emod_lt_of_pos _ (by omega)
    have := h3 (x % (rnd t : Int)).toNat (by omega)
    have this : spd t (((x % (rnd t : Int)).toNat : Nat) : Int) ≤ fmV (spN t) (rnd t) := this
    rw [Int.toNat_of_nonneg hx0, (spd_per t).mod] at this
    exact this

theorem acc_at_mod {f : Int → Int} {p : Int} (h : Per f p) (x : Int) (n : Nat) : acc f (x % p) n = acc f x n := by
  refine acc_congr (fun i _ => ?_)
  have := h.mul (x / p) (x % p + i)
  rw [← this]
  have e := Int.emod_add_ediv_mul x p
  congr 1
  omega

theorem top_drift {t : List (List Int)} (ht : Vld t) (n : Nat) : 0 ≤ fmI (acN t n) (rnd t) ∧ fmI (acN t n) (rnd t) < rnd t ∧ acc (spd t) (fmI (acN t n) (rnd t)) n = fmV (acN t n) (rnd t) ∧ ∀ x : Int, acc (spd t) x n ≤ fmV (acN t n) (rnd t) := by
  have hr := ht.rnd_pos
  obtain ⟨h0, h1, h2, h3⟩ := fm_facts (acN t n) hr
  refine ⟨h0, h1, ?_, fun x => ?_⟩
  · have h4 : acc (spd t) ((fmI (acN t n) (rnd t)).toNat : Int) n = fmV (acN t n) (rnd t) := h2
    rwa [Int.toNat_of_nonneg h0] at h4
  · have hx0 : 0 ≤ x % (rnd t : Int) := Int.emod_nonneg _ (by omega)
    have hx1 : x % (rnd t : Int) < rnd t := Int.emod_lt_of_pos _ (by omega)
    have := h3 (x % (rnd t : Int)).toNat (by omega)
    have this : acc (spd t) (((x % (rnd t : Int)).toNat : Nat) : Int) n ≤ fmV (acN t n) (rnd t) := this
    rw [Int.toNat_of_nonneg hx0, acc_at_mod (spd_per t)] at this
    exact this

set_option maxRecDepth 100000 in
set_option maxHeartbeats 2000000 in
theorem TideTops_early (v : Value) (t : List (List Int)) (h n : Int) (w : World) (hv : RowsAt w v t)
    (hg : ¬ (wide t = false ∧ vld t = true ∧ hourB h = true)) :
    Calls Try.prog 13 #[v, .int .i64 h, .int .u16 n] w fun e w' => e = .returned (.bool true) ∧ Below w.heap.size w w' := by
  cases hw : wide t with
  | true =>
    have W := Lib.hid hw
    clear hw hg
    go_enter Try.func13, Try.ntmps13
    go_wp2_with (first
      | (go_at_call 15; refine (wide_any _ _ _ hv).mono ?_; rintro e w' ⟨rfl, rfl⟩; rw [W.out])
      | (go_at_call 22; refine (rValid_any _ _ _ hv).mono ?_; rintro e w' ⟨rfl, rfl⟩; rw [Y.out])
      | (go_at_call_of 23 (Value.int .i64 h); refine (rIsHour_any _ _).mono ?_; rintro e w' ⟨rfl, rfl⟩; rw [HH.out])
      | (go_at_call 16; refine (awake_any _).mono ?_; rintro e w1 ⟨rfl, hb1⟩))
    go_ret
    exact ⟨rfl, hb1⟩
  | false =>
    have W := Lib.hid hw
    cases hy : vld t with
    | false =>
      have Y := Lib.hid hy
      clear hw hy hg
      go_enter Try.func13, Try.ntmps13
      go_wp2_with (first
        | (go_at_call 15; refine (wide_any _ _ _ hv).mono ?_; rintro e w' ⟨rfl, rfl⟩; rw [W.out])
        | (go_at_call 22; refine (rValid_any _ _ _ hv).mono ?_; rintro e w' ⟨rfl, rfl⟩; rw [Y.out])
        | (go_at_call_of 23 (Value.int .i64 h); refine (rIsHour_any _ _).mono ?_; rintro e w' ⟨rfl, rfl⟩; rw [HH.out])
        | (go_at_call 16; refine (awake_any _).mono ?_; rintro e w1 ⟨rfl, hb1⟩))
      go_ret
      exact ⟨rfl, hb1⟩
    | true =>
      have Y := Lib.hid hy
      cases hh : hourB h with
      | false =>
        have HH := Lib.hid hh
        clear hw hy hh hg
        go_enter Try.func13, Try.ntmps13
        go_wp2_with (first
          | (go_at_call 15; refine (wide_any _ _ _ hv).mono ?_; rintro e w' ⟨rfl, rfl⟩; rw [W.out])
          | (go_at_call 22; refine (rValid_any _ _ _ hv).mono ?_; rintro e w' ⟨rfl, rfl⟩; rw [Y.out])
          | (go_at_call_of 23 (Value.int .i64 h); refine (rIsHour_any _ _).mono ?_; rintro e w' ⟨rfl, rfl⟩; rw [HH.out])
          | (go_at_call 16; refine (awake_any _).mono ?_; rintro e w1 ⟨rfl, hb1⟩))
        go_ret
        exact ⟨rfl, hb1⟩
      | true => exact absurd ⟨hw, hy, hh⟩ hg



set_option maxRecDepth 100000 in
set_option maxHeartbeats 4000000 in
theorem TideTops_main (v : Value) (t : List (List Int)) (h : Int) (n : Nat) (w : World) (hv : RowsAt w v t) (hn : n ≤ 65535)
    (hw : wide t = false) (hy : vld t = true) (hh : hourB h = true) :
    Calls Try.prog 13 #[v, .int .i64 h, .int .u16 n] w fun e w' => e = .returned (.bool true) ∧ Below w.heap.size w w' := by
  have hb := (hourB_iff h).1 hh
  have ht := (vld_iff t).1 hy
  have hr := ht.rnd_pos
  have hr2 := ht.rnd_le
  obtain ⟨s0, s1, s2, s3⟩ := top_speed ht
  have s4 := s3 h
  have TS := Lib.hid s2
  obtain ⟨d0, d1, d2, d3⟩ := top_drift ht n
  have d4 := d3 h
  have TD := Lib.hid d2
  have SP : Hid (spanB (n : Int) = true) := Lib.hid ((spanB_iff _).2 (by omega))
  have bs := ht.bd h
  clear s2 s3 d2 d3
  rcases slk_cases t h with ⟨k, hk, hs, hz, hnz⟩ | ⟨hs, hnz⟩
  · have m0 : 0 ≤ (n : Int) % (rnd t : Int) := Int.emod_nonneg _ (by omega)
    have m1 : (n : Int) % (rnd t : Int) < rnd t := Int.emod_lt_of_pos _ (by omega)
    have m2 : (((n % rnd t : Nat) : Int)) = (n : Int) % (rnd t : Int) := Int.natCast_emod _ _
    have NM := Lib.hid m2
    clear m2
    by_cases hk0 : k = 0
    · subst hk0
      rw [show ((0 : Nat) : Int) = 0 from rfl, Int.add_zero] at hz
      obtain ⟨e1, e2⟩ := slack_hit hy hh hs
      rw [show ((0 : Nat) : Int) = 0 from rfl, Int.add_zero] at e1
      have E1 := Lib.hid e1
      have E2 := Lib.hid e2
      have Z := Lib.hid hz
      have B1 : (spd t h == 0) = true := by simpa using hz
      have m3 : ¬ h + (n : Int) % (rnd t : Int) < h := by omega
      clear e1 e2 hs hz hnz
      have W := Lib.hid hw
      have Y := Lib.hid hy
      have HH := Lib.hid hh
      have hI := Inv.start hv
      clear hw hy hh hv
      go_enter Try.func13, Try.ntmps13
      go_wp2_with fail
      refine (wide_any _ _ _ hI.r).mono ?_
      rintro e w' ⟨rfl, rfl⟩
      rw [W.out]
      go_wp2_with fail
      refine (rValid_any _ _ _ hI.r).mono ?_
      rintro e w' ⟨rfl, rfl⟩
      rw [Y.out]
      go_wp2_with fail
      refine (rIsHour_any _ _).mono ?_
      rintro e w' ⟨rfl, rfl⟩
      rw [HH.out]
      go_wp2_with fail
      refine (tHighest_any _ _ _ hI.r).mono ?_
      rintro e wn ⟨rfl, hbn⟩
      replace hI := hI.step hbn
      clear hbn
      rw [qi_yes Y.out, qi_yes Y.out, qe_yes Y.out]
      generalize fmI (spN t) (rnd t) = I at *
      generalize fmV (spN t) (rnd t) = M at *
      go_wp2_with fail
      refine (tSpeed_v _ _ _ _ hI.r Y.out hb.1 hb.2).mono ?_
      rintro e wn ⟨rfl, hbn⟩
      replace hI := hI.step hbn
      clear hbn
      go_wp2_with fail
      refine (tSpeed_v _ _ _ _ hI.r Y.out (by omega) (by omega)).mono ?_
      rintro e wn ⟨rfl, hbn⟩
      replace hI := hI.step hbn
      clear hbn
      rw [TS.out]
      go_wp2_with fail
      refine (tFarthest_any _ _ _ _ hI.r).mono ?_
      rintro e wn ⟨rfl, hbn⟩
      replace hI := hI.step hbn
      clear hbn
      rw [SP.out, qi_yes Y.out, qi_yes Y.out, qe_yes Y.out, Int.toNat_natCast]
      generalize fmI (acN t n) (rnd t) = J at *
      generalize fmV (acN t n) (rnd t) = N at *
      go_wp2_with fail
      refine (tDrift_v _ _ _ _ _ hI.r Y.out hb.1 hb.2 (by omega) (by omega)).mono ?_
      rintro e wn ⟨rfl, hbn⟩
      replace hI := hI.step hbn
      clear hbn
      rw [Int.toNat_natCast]
      go_wp2_with fail
      refine (tDrift_v _ _ _ _ _ hI.r Y.out (by omega) (by omega) (by omega) (by omega)).mono ?_
      rintro e wn ⟨rfl, hbn⟩
      replace hI := hI.step hbn
      clear hbn
      rw [Int.toNat_natCast, TD.out]
      go_wp2_with fail
      refine (tRound_v _ _ _ hI.r Y.out).mono ?_
      rintro e wn ⟨rfl, hbn⟩
      replace hI := hI.step hbn
      clear hbn
      go_wp2_with fail
      refine (tSlack_any _ _ _ _ hI.r).mono ?_
      rintro e wn ⟨rfl, hbn⟩
      replace hI := hI.step hbn
      clear hbn
      rw [E1.out, E2.out]
      go_wp2_with fail
      refine (rIsHour_any _ _).mono ?_
      rintro e w' ⟨rfl, rfl⟩
      rw [HH.out]
      go_wp2_with fail
      refine (tSpeed_v _ _ _ _ hI.r Y.out hb.1 hb.2).mono ?_
      rintro e wn ⟨rfl, hbn⟩
      replace hI := hI.step hbn
      clear hbn
      rw [Z.out]
      go_wp2_with (first
        | (go_at_call 16; refine (awake_any _).mono ?_; rintro e w1 ⟨rfl, hb1⟩))
      go_ret
      exact ⟨rfl, below_trans hI.b hb1⟩
    · obtain ⟨e1, e2⟩ := slack_hit hy hh hs
      have E1 := Lib.hid e1
      have E2 := Lib.hid e2
      have Z := Lib.hid hz
      have NZ := Lib.hid hnz
      have B1 : (spd t h == 0) = false := by
        have := hnz 0 (by omega)
        rw [show ((0 : Nat) : Int) = 0 from rfl, Int.add_zero] at this
        simpa using this
      have B2 : (h + (k : Int) == h) = false := by rw [beq_eq_false_iff_ne]; omega
      clear e1 e2 hs hz hnz
      cases hx : hourB (h + k) with
      | false =>
        have HX := Lib.hid hx
        clear hx
        have W := Lib.hid hw
        have Y := Lib.hid hy
        have HH := Lib.hid hh
        have hI := Inv.start hv
        clear hw hy hh hv
        go_enter Try.func13, Try.ntmps13
        go_wp2_with fail
        refine (wide_any _ _ _ hI.r).mono ?_
        rintro e w' ⟨rfl, rfl⟩
        rw [W.out]
        go_wp2_with fail
        refine (rValid_any _ _ _ hI.r).mono ?_
        rintro e w' ⟨rfl, rfl⟩
        rw [Y.out]
        go_wp2_with fail
        refine (rIsHour_any _ _).mono ?_
        rintro e w' ⟨rfl, rfl⟩
        rw [HH.out]
        go_wp2_with fail
        refine (tHighest_any _ _ _ hI.r).mono ?_
        rintro e wn ⟨rfl, hbn⟩
        replace hI := hI.step hbn
        clear hbn
        rw [qi_yes Y.out, qi_yes Y.out, qe_yes Y.out]
        generalize fmI (spN t) (rnd t) = I at *
        generalize fmV (spN t) (rnd t) = M at *
        go_wp2_with fail
        refine (tSpeed_v _ _ _ _ hI.r Y.out hb.1 hb.2).mono ?_
        rintro e wn ⟨rfl, hbn⟩
        replace hI := hI.step hbn
        clear hbn
        go_wp2_with fail
        refine (tSpeed_v _ _ _ _ hI.r Y.out (by omega) (by omega)).mono ?_
        rintro e wn ⟨rfl, hbn⟩
        replace hI := hI.step hbn
        clear hbn
        rw [TS.out]
        go_wp2_with fail
        refine (tFarthest_any _ _ _ _ hI.r).mono ?_
        rintro e wn ⟨rfl, hbn⟩
        replace hI := hI.step hbn
        clear hbn
        rw [SP.out, qi_yes Y.out, qi_yes Y.out, qe_yes Y.out, Int.toNat_natCast]
        generalize fmI (acN t n) (rnd t) = J at *
        generalize fmV (acN t n) (rnd t) = N at *
        go_wp2_with fail
        refine (tDrift_v _ _ _ _ _ hI.r Y.out hb.1 hb.2 (by omega) (by omega)).mono ?_
        rintro e wn ⟨rfl, hbn⟩
        replace hI := hI.step hbn
        clear hbn
        rw [Int.toNat_natCast]
        go_wp2_with fail
        refine (tDrift_v _ _ _ _ _ hI.r Y.out (by omega) (by omega) (by omega) (by omega)).mono ?_
        rintro e wn ⟨rfl, hbn⟩
        replace hI := hI.step hbn
        clear hbn
        rw [Int.toNat_natCast, TD.out]
        go_wp2_with fail
        refine (tRound_v _ _ _ hI.r Y.out).mono ?_
        rintro e wn ⟨rfl, hbn⟩
        replace hI := hI.step hbn
        clear hbn
        go_wp2_with fail
        refine (tSlack_any _ _ _ _ hI.r).mono ?_
        rintro e wn ⟨rfl, hbn⟩
        replace hI := hI.step hbn
        clear hbn
        rw [E1.out, E2.out]
        go_wp2_with fail
        refine (rIsHour_any _ _).mono ?_
        rintro e w' ⟨rfl, rfl⟩
        rw [HX.out]
        by_cases hq : h + (n : Int) % (rnd t : Int) < h + k
        · cases hz : hourB (h + (n : Int) % (rnd t : Int)) with
          | false =>
            have HZ := Lib.hid hz
            clear hz
            go_wp2_with fail
            refine (rIsHour_any _ _).mono ?_
            rintro e w' ⟨rfl, rfl⟩
            rw [HZ.out]
            go_wp2_with (first
              | (go_at_call 16; refine (awake_any _).mono ?_; rintro e w1 ⟨rfl, hb1⟩))
            go_ret
            exact ⟨rfl, below_trans hI.b hb1⟩
          | true =>
            have HZ := Lib.hid hz
            have hzb := (hourB_iff _).1 hz
            have hne : (spd t (h + (n : Int) % (rnd t : Int)) != 0) = true := by
              rw [← NM.out, bne_iff_ne]
              exact NZ.out _ (by rw [← Int.ofNat_lt, NM.out]; omega)
            clear hz
            go_wp2_with fail
            refine (rIsHour_any _ _).mono ?_
            rintro e w' ⟨rfl, rfl⟩
            rw [HZ.out]
            go_wp2_with fail
            refine (tSpeed_v _ _ _ _ hI.r Y.out hzb.1 hzb.2).mono ?_
            rintro e wn ⟨rfl, hbn⟩
            replace hI := hI.step hbn
            clear hbn
            go_wp2_with (first
              | (go_at_call 16; refine (awake_any _).mono ?_; rintro e w1 ⟨rfl, hb1⟩))
            go_ret
            exact ⟨rfl, below_trans hI.b hb1⟩
        · go_wp2_with (first
            | (go_at_call 16; refine (awake_any _).mono ?_; rintro e w1 ⟨rfl, hb1⟩))
          go_ret
          exact ⟨rfl, below_trans hI.b hb1⟩
      | true =>
        have HX := Lib.hid hx
        have hxb := (hourB_iff _).1 hx
        clear hx
        have W := Lib.hid hw
        have Y := Lib.hid hy
        have HH := Lib.hid hh
        have hI := Inv.start hv
        clear hw hy hh hv
        go_enter Try.func13, Try.ntmps13
        go_wp2_with fail
        refine (wide_any _ _ _ hI.r).mono ?_
        rintro e w' ⟨rfl, rfl⟩
        rw [W.out]
        go_wp2_with fail
        refine (rValid_any _ _ _ hI.r).mono ?_
        rintro e w' ⟨rfl, rfl⟩
        rw [Y.out]
        go_wp2_with fail
        refine (rIsHour_any _ _).mono ?_
        rintro e w' ⟨rfl, rfl⟩
        rw [HH.out]
        go_wp2_with fail
        refine (tHighest_any _ _ _ hI.r).mono ?_
        rintro e wn ⟨rfl, hbn⟩
        replace hI := hI.step hbn
        clear hbn
        rw [qi_yes Y.out, qi_yes Y.out, qe_yes Y.out]
        generalize fmI (spN t) (rnd t) = I at *
        generalize fmV (spN t) (rnd t) = M at *
        go_wp2_with fail
        refine (tSpeed_v _ _ _ _ hI.r Y.out hb.1 hb.2).mono ?_
        rintro e wn ⟨rfl, hbn⟩
        replace hI := hI.step hbn
        clear hbn
        go_wp2_with fail
        refine (tSpeed_v _ _ _ _ hI.r Y.out (by omega) (by omega)).mono ?_
        rintro e wn ⟨rfl, hbn⟩
        replace hI := hI.step hbn
        clear hbn
        rw [TS.out]
        go_wp2_with fail
        refine (tFarthest_any _ _ _ _ hI.r).mono ?_
        rintro e wn ⟨rfl, hbn⟩
        replace hI := hI.step hbn
        clear hbn
        rw [SP.out, qi_yes Y.out, qi_yes Y.out, qe_yes Y.out, Int.toNat_natCast]
        generalize fmI (acN t n) (rnd t) = J at *
        generalize fmV (acN t n) (rnd t) = N at *
        go_wp2_with fail
        refine (tDrift_v _ _ _ _ _ hI.r Y.out hb.1 hb.2 (by omega) (by omega)).mono ?_
        rintro e wn ⟨rfl, hbn⟩
        replace hI := hI.step hbn
        clear hbn
        rw [Int.toNat_natCast]
        go_wp2_with fail
        refine (tDrift_v _ _ _ _ _ hI.r Y.out (by omega) (by omega) (by omega) (by omega)).mono ?_
        rintro e wn ⟨rfl, hbn⟩
        replace hI := hI.step hbn
        clear hbn
        rw [Int.toNat_natCast, TD.out]
        go_wp2_with fail
        refine (tRound_v _ _ _ hI.r Y.out).mono ?_
        rintro e wn ⟨rfl, hbn⟩
        replace hI := hI.step hbn
        clear hbn
        go_wp2_with fail
        refine (tSlack_any _ _ _ _ hI.r).mono ?_
        rintro e wn ⟨rfl, hbn⟩
        replace hI := hI.step hbn
        clear hbn
        rw [E1.out, E2.out]
        go_wp2_with fail
        refine (rIsHour_any _ _).mono ?_
        rintro e w' ⟨rfl, rfl⟩
        rw [HX.out]
        go_wp2_with fail
        refine (tSpeed_v _ _ _ _ hI.r Y.out hxb.1 hxb.2).mono ?_
        rintro e wn ⟨rfl, hbn⟩
        replace hI := hI.step hbn
        clear hbn
        rw [Z.out]
        by_cases hq : h + (n : Int) % (rnd t : Int) < h + k
        · cases hz : hourB (h + (n : Int) % (rnd t : Int)) with
          | false =>
            have HZ := Lib.hid hz
            clear hz
            go_wp2_with fail
            refine (rIsHour_any _ _).mono ?_
            rintro e w' ⟨rfl, rfl⟩
            rw [HZ.out]
            go_wp2_with (first
              | (go_at_call 16; refine (awake_any _).mono ?_; rintro e w1 ⟨rfl, hb1⟩))
            go_ret
            exact ⟨rfl, below_trans hI.b hb1⟩
          | true =>
            have HZ := Lib.hid hz
            have hzb := (hourB_iff _).1 hz
            have hne : (spd t (h + (n : Int) % (rnd t : Int)) != 0) = true := by
              rw [← NM.out, bne_iff_ne]
              exact NZ.out _ (by rw [← Int.ofNat_lt, NM.out]; omega)
            clear hz
            go_wp2_with fail
            refine (rIsHour_any _ _).mono ?_
            rintro e w' ⟨rfl, rfl⟩
            rw [HZ.out]
            go_wp2_with fail
            refine (tSpeed_v _ _ _ _ hI.r Y.out hzb.1 hzb.2).mono ?_
            rintro e wn ⟨rfl, hbn⟩
            replace hI := hI.step hbn
            clear hbn
            go_wp2_with (first
              | (go_at_call 16; refine (awake_any _).mono ?_; rintro e w1 ⟨rfl, hb1⟩))
            go_ret
            exact ⟨rfl, below_trans hI.b hb1⟩
        · go_wp2_with (first
            | (go_at_call 16; refine (awake_any _).mono ?_; rintro e w1 ⟨rfl, hb1⟩))
          go_ret
          exact ⟨rfl, below_trans hI.b hb1⟩
  · obtain ⟨e1, e2⟩ := slack_none hy hh hs
    have E1 := Lib.hid e1
    have E2 := Lib.hid e2
    have hne : (spd t h != 0) = true := by
      have := hnz 0 hr
      rw [show ((0 : Nat) : Int) = 0 from rfl, Int.add_zero] at this
      simpa using this
    clear e1 e2 hs hnz
    have W := Lib.hid hw
    have Y := Lib.hid hy
    have HH := Lib.hid hh
    have hI := Inv.start hv
    clear hw hy hh hv
    go_enter Try.func13, Try.ntmps13
    go_wp2_with fail
    refine (wide_any _ _ _ hI.r).mono ?_
    rintro e w' ⟨rfl, rfl⟩
    rw [W.out]
    go_wp2_with fail
    refine (rValid_any _ _ _ hI.r).mono ?_
    rintro e w' ⟨rfl, rfl⟩
    rw [Y.out]
    go_wp2_with fail
    refine (rIsHour_any _ _).mono ?_
    rintro e w' ⟨rfl, rfl⟩
    rw [HH.out]
    go_wp2_with fail
    refine (tHighest_any _ _ _ hI.r).mono ?_
    rintro e wn ⟨rfl, hbn⟩
    replace hI := hI.step hbn
    clear hbn
    rw [qi_yes Y.out, qi_yes Y.out, qe_yes Y.out]
    generalize fmI (spN t) (rnd t) = I at *
    generalize fmV (spN t) (rnd t) = M at *
    go_wp2_with fail
    refine (tSpeed_v _ _ _ _ hI.r Y.out hb.1 hb.2).mono ?_
    rintro e wn ⟨rfl, hbn⟩
    replace hI := hI.step hbn
    clear hbn
    go_wp2_with fail
    refine (tSpeed_v _ _ _ _ hI.r Y.out (by omega) (by omega)).mono ?_
    rintro e wn ⟨rfl, hbn⟩
    replace hI := hI.step hbn
    clear hbn
    rw [TS.out]
    go_wp2_with fail
    refine (tFarthest_any _ _ _ _ hI.r).mono ?_
    rintro e wn ⟨rfl, hbn⟩
    replace hI := hI.step hbn
    clear hbn
    rw [SP.out, qi_yes Y.out, qi_yes Y.out, qe_yes Y.out, Int.toNat_natCast]
    generalize fmI (acN t n) (rnd t) = J at *
    generalize fmV (acN t n) (rnd t) = N at *
    go_wp2_with fail
    refine (tDrift_v _ _ _ _ _ hI.r Y.out hb.1 hb.2 (by omega) (by omega)).mono ?_
    rintro e wn ⟨rfl, hbn⟩
    replace hI := hI.step hbn
    clear hbn
    rw [Int.toNat_natCast]
    go_wp2_with fail
    refine (tDrift_v _ _ _ _ _ hI.r Y.out (by omega) (by omega) (by omega) (by omega)).mono ?_
    rintro e wn ⟨rfl, hbn⟩
    replace hI := hI.step hbn
    clear hbn
    rw [Int.toNat_natCast, TD.out]
    go_wp2_with fail
    refine (tRound_v _ _ _ hI.r Y.out).mono ?_
    rintro e wn ⟨rfl, hbn⟩
    replace hI := hI.step hbn
    clear hbn
    go_wp2_with fail
    refine (tSlack_any _ _ _ _ hI.r).mono ?_
    rintro e wn ⟨rfl, hbn⟩
    replace hI := hI.step hbn
    clear hbn
    rw [E1.out, E2.out]
    go_wp2_with (first
      | (go_at_call 16; refine (awake_any _).mono ?_; rintro e w1 ⟨rfl, hb1⟩))
    go_ret
    exact ⟨rfl, below_trans hI.b hb1⟩

theorem TideTops_walk (v : Value) (t : List (List Int)) (h n : Int) (w : World) (hv : RowsAt w v t) (wn : (Lit.int .u16 n).wf = true) :
    Calls Try.prog 13 #[v, .int .i64 h, .int .u16 n] w fun e w' => e = .returned (.bool true) ∧ Below w.heap.size w w' := by
  have hn := u16_bd wn
  by_cases hg : wide t = false ∧ vld t = true ∧ hourB h = true
  · obtain ⟨n, rfl⟩ := Int.eq_ofNat_of_zero_le hn.1
    exact TideTops_main v t h n w hv (by omega) hg.1 hg.2.1 hg.2.2
  · exact TideTops_early v t h n w hv hg

end Go.Proofs.Ytflhpnhehaokpaa
