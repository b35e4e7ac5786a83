/- Contracts: Slack of both, the reference's Highest and Farthest. -/
import Derived.Test.YtflhpnhehaokpaaU
namespace Go.Proofs.Ytflhpnhehaokpaa
open Go.RowKit

theorem slack_no {t : List (List Int)} (h : vld t = false) (a : Int) : slackV t a = 0 ∧ slackE t a = 10 := by simp [slackV, slackE, h]
theorem slack_mid {t : List (List Int)} {a : Int} (h : vld t = true) (k : hourB a = false) : slackV t a = 0 ∧ slackE t a = 2 := by simp [slackV, slackE, h, k]
theorem slack_hit {t : List (List Int)} {a : Int} {k : Nat} (h : vld t = true) (ha : hourB a = true) (hs : slk t a = k) : slackV t a = a + k ∧ slackE t a = 0 := by
  have : ¬ slk t a < 0 := by omega
  simp only [slackV, slackE, h, ha, Bool.and_self, if_true, if_neg this]
  exact ⟨by omega, trivial⟩
theorem slack_none {t : List (List Int)} {a : Int} (h : vld t = true) (ha : hourB a = true) (hs : slk t a = -1) : slackV t a = 0 ∧ slackE t a = 5 := by
  have : slk t a < 0 := by omega
  simp only [slackV, slackE, h, ha, Bool.and_self, if_true, if_pos this]
  exact ⟨trivial, trivial⟩


set_option maxHeartbeats 1000000 in
theorem tSlack_any (v : Value) (t : List (List Int)) (a : Int) (w : World) (hv : RowsAt w v t) :
    Calls Try.prog 43 #[v, .int .i64 a] w fun e w' => e = .returned (.tuple #[.int .i64 (slackV t a), .int .i64 (slackE t a)]) ∧ Below w.heap.size w w' := by
  cases hy : vld t with
  | false =>
    rw [(slack_no hy a).1, (slack_no hy a).2]
    have Y := Lib.hid hy
    clear hy
    go_enter Try.func43, Try.ntmps43
    go_wp2_with fail
    refine (newTide_no _ _ _ hv Y.out).mono ?_
    rintro e w1 ⟨rfl, rfl⟩
    go_wp2
    go_ret2
    exact ⟨rfl, Below.refl _ _⟩
  | true =>
    have ht := (vld_iff t).1 hy
    cases hh : hourB a with
    | false =>
      rw [(slack_mid hy hh).1, (slack_mid hy hh).2]
      have Y := Lib.hid hy
      have HH := Lib.hid hh
      clear hy hh
      go_enter Try.func43, Try.ntmps43
      go_wp2_with fail
      refine (newTide_yes _ _ _ hv Y.out).mono ?_
      rintro e w1 ⟨tv, rfl, hr, hb1⟩
      go_wp2_with fail
      refine (isHour_any _ _).mono ?_
      rintro e w' ⟨rfl, rfl⟩
      rw [HH.out]
      go_wp2
      go_ret2
      exact ⟨rfl, hb1⟩
    | true =>
      have hbb := (hourB_iff _).1 hh
      have hr2 := ht.rnd_le
      have Y := Lib.hid hy
      have HH := Lib.hid hh
      clear hy hh
      go_enter Try.func43, Try.ntmps43
      go_wp2_with fail
      refine (newTide_yes _ _ _ hv Y.out).mono ?_
      rintro e w1 ⟨tv, rfl, hr, hb1⟩
      go_wp2_with fail
      refine (isHour_any _ _).mono ?_
      rintro e w' ⟨rfl, rfl⟩
      rw [HH.out]
      go_wp2_with fail
      refine (round_any _ _ _ hr ht).mono ?_
      rintro e w2 ⟨rfl, hb2⟩
      have hrr := hr.below hb2
      go_wp2
      go_loop [24] (fun i => ∃ k : Nat, k ≤ rnd t ∧ i = .int .i64 k ∧ Hid (∀ j : Nat, j < k → spd t (a + j) ≠ 0)) (fun i => rnd t - (intOf i).toNat)
      case atStart => exact ⟨0, Nat.zero_le _, rfl, fun j hj => by omega⟩
      case round =>
        obtain ⟨k, hk, rfl, H⟩ := hrel
        by_cases hlt : k < rnd t
        · by_cases he : spd t (a + k) = 0
          · obtain ⟨e1, e2⟩ := slack_hit Y.out HH.out (slk_hit hlt H.out he)
            have E1 := Lib.hid e1
            have E2 := Lib.hid e2
            have hd : (spd t (a + k) == 0) = true := by simpa using he
            clear he e1 e2
            go_wp2_with fail
            refine (speed_any _ _ _ _ hrr ht).mono ?_
            rintro e w' ⟨rfl, rfl⟩
            go_wp2
            go_ret2
            exact ⟨by rw [E1.out, E2.out]; rfl, below_trans hb1 hb2⟩
          · have N := Lib.hid he
            have hd : (spd t (a + k) == 0) = false := by simpa using he
            clear he
            go_wp2_with fail
            refine (speed_any _ _ _ _ hrr ht).mono ?_
            rintro e w' ⟨rfl, rfl⟩
            go_wp2
            go_round
            case rel => exact ⟨k + 1, by omega, by go_num, fun j hj => by
              rcases Nat.lt_succ_iff_lt_or_eq.1 hj with h | rfl
              · exact H.out j h
              · exact N.out⟩
            case measure => simp [intOf]; omega
        · obtain ⟨e1, e2⟩ := slack_none Y.out HH.out (slk_none (fun j hj => H.out j (by omega)))
          have E1 := Lib.hid e1
          have E2 := Lib.hid e2
          clear e1 e2
          go_wp2
          go_ret2
          exact ⟨by rw [E1.out, E2.out]; rfl, below_trans hb1 hb2⟩

set_option maxHeartbeats 1000000 in
theorem rSlack_any (v : Value) (t : List (List Int)) (a : Int) (w : World) (hv : RowsAt w v t) :
    Calls Try.prog 44 #[v, .int .i64 a] w fun e w' => e = .returned (.tuple #[.int .i64 (slackV t a), .int .i64 (slackE t a)]) ∧ Below w.heap.size w w' := by
  cases hy : vld t with
  | false =>
    rw [(slack_no hy a).1, (slack_no hy a).2]
    have Y := Lib.hid hy
    clear hy
    go_enter Try.func44, Try.ntmps44
    go_wp2_with (first
      | (go_at_call 22; refine (rValid_any _ _ _ hv).mono ?_; rintro e w' ⟨rfl, rfl⟩; rw [Y.out]))
    go_ret2
    exact ⟨rfl, Below.refl _ _⟩
  | true =>
    have ht := (vld_iff t).1 hy
    cases hh : hourB a with
    | false =>
      rw [(slack_mid hy hh).1, (slack_mid hy hh).2]
      have Y := Lib.hid hy
      have HH := Lib.hid hh
      clear hy hh
      go_enter Try.func44, Try.ntmps44
      go_wp2_with (first
        | (go_at_call 22; refine (rValid_any _ _ _ hv).mono ?_; rintro e w' ⟨rfl, rfl⟩; rw [Y.out])
        | (go_at_call_of 23 (Value.int .i64 a); refine (rIsHour_any _ _).mono ?_; rintro e w' ⟨rfl, rfl⟩; rw [HH.out]))
      go_ret2
      exact ⟨rfl, Below.refl _ _⟩
    | true =>
      have hbb := (hourB_iff _).1 hh
      have hr2 := ht.rnd_le
      have Y := Lib.hid hy
      have HH := Lib.hid hh
      clear hy hh
      go_enter Try.func44, Try.ntmps44
      go_wp2_with (first
        | (go_at_call 22; refine (rValid_any _ _ _ hv).mono ?_; rintro e w' ⟨rfl, rfl⟩; rw [Y.out])
        | (go_at_call_of 23 (Value.int .i64 a); refine (rIsHour_any _ _).mono ?_; rintro e w' ⟨rfl, rfl⟩; rw [HH.out])
        | (go_at_call 72; refine (rround_any _ _ _ hv ht).mono ?_; rintro e w' ⟨rfl, rfl⟩))
      go_loop [15] (fun i => ∃ k : Nat, k ≤ rnd t ∧ i = .int .i64 k ∧ Hid (∀ j : Nat, j < k → spd t (a + j) ≠ 0)) (fun i => rnd t - (intOf i).toNat)
      case atStart => exact ⟨0, Nat.zero_le _, rfl, fun j hj => by omega⟩
      case round =>
        obtain ⟨k, hk, rfl, H⟩ := hrel
        by_cases hlt : k < rnd t
        · by_cases he : spd t (a + k) = 0
          · obtain ⟨e1, e2⟩ := slack_hit Y.out HH.out (slk_hit hlt H.out he)
            have E1 := Lib.hid e1
            have E2 := Lib.hid e2
            have hd : (spd t (a + k) == 0) = true := by simpa using he
            clear he e1 e2
            go_wp2_with fail
            refine (rspeed_any _ _ _ _ hv ht).mono ?_
            rintro e w' ⟨rfl, rfl⟩
            go_wp2
            go_ret2
            exact ⟨by rw [E1.out, E2.out]; rfl, Below.refl _ _⟩
          · have N := Lib.hid he
            have hd : (spd t (a + k) == 0) = false := by simpa using he
            clear he
            go_wp2_with fail
            refine (rspeed_any _ _ _ _ hv ht).mono ?_
            rintro e w' ⟨rfl, rfl⟩
            go_wp2
            go_round
            case rel => exact ⟨k + 1, by omega, by go_num, fun j hj => by
              rcases Nat.lt_succ_iff_lt_or_eq.1 hj with h | rfl
              · exact H.out j h
              · exact N.out⟩
            case measure => simp [intOf]; omega
        · obtain ⟨e1, e2⟩ := slack_none Y.out HH.out (slk_none (fun j hj => H.out j (by omega)))
          have E1 := Lib.hid e1
          have E2 := Lib.hid e2
          clear e1 e2
          go_wp2
          go_ret2
          exact ⟨by rw [E1.out, E2.out]; rfl, Below.refl _ _⟩

theorem fmTo_one (f : Nat → Int) : fmTo f 1 = (0, f 0) := rfl
theorem fmTo_up {f : Nat → Int} {k : Nat} (h : (fmTo f k).2 < f k) : fmTo f (k + 1) = (k, f k) := by
  conv => lhs; unfold fmTo
  rw [if_pos (Or.inr h)]
theorem fmTo_stay {f : Nat → Int} {k : Nat} (h0 : k ≠ 0) (h : ¬ (fmTo f k).2 < f k) : fmTo f (k + 1) = fmTo f k := by
  conv => lhs; unfold fmTo
  rw [if_neg (by omega)]

set_option maxHeartbeats 1000000 in
theorem rHighest_any (v : Value) (t : List (List Int)) (w : World) (hv : RowsAt w v t) :
    Calls Try.prog 46 #[v] w fun e w' => e = .returned (.tuple #[.int .i64 (qi t true (fmI (spN t) (rnd t))), .int .i64 (qi t true (fmV (spN t) (rnd t))), .int .i64 (qe t true)]) ∧ Below w.heap.size w w' := by
  cases hy : vld t with
  | false =>
    rw [qi_no hy, qi_no hy, qe_no hy]
    have Y := Lib.hid hy
    clear hy
    go_enter Try.func46, Try.ntmps46
    go_wp2_with (first
      | (go_at_call 22; refine (rValid_any _ _ _ hv).mono ?_; rintro e w' ⟨rfl, rfl⟩; rw [Y.out]))
    go_ret3
    exact ⟨rfl, Below.refl _ _⟩
  | true =>
    have ht := (vld_iff t).1 hy
    rw [qi_yes hy, qi_yes hy, qe_yes hy]
    have hr := ht.rnd_pos
    have hr2 := ht.rnd_le
    have Y := Lib.hid hy
    clear hy
    go_enter Try.func46, Try.ntmps46
    go_wp2_with (first
      | (go_at_call 22; refine (rValid_any _ _ _ hv).mono ?_; rintro e w' ⟨rfl, rfl⟩; rw [Y.out])
      | (go_at_call 72; refine (rround_any _ _ _ hv ht).mono ?_; rintro e w' ⟨rfl, rfl⟩)
      | (go_at_call 75; refine (speeds_any _ _ _ _ hv ht (by omega)).mono ?_; rintro e w2 ⟨lv, rfl, hl, hb2⟩; have hlc := ints_cell hl (by rw [sps_length]; exact hr); rw [sps_length] at hlc; obtain ⟨lb, lo, lcap, rfl, hlcell⟩ := hlc))
    have LC := Lib.hid hlcell
    clear hl hlcell hv
    go_loop [2, 3, 15] (fun hr' top i => ∃ k : Nat, k ≤ rnd t ∧ i = .int .i64 k ∧ hr' = .int .i64 (fmI (spN t) k) ∧ top = .int .i64 (fmV (spN t) k)) (fun _ _ i => rnd t - (intOf i).toNat)
    case atStart => exact ⟨0, Nat.zero_le _, rfl, rfl, rfl⟩
    case round =>
      obtain ⟨k, hk, rfl, rfl, rfl⟩ := hrel
      by_cases hlt : k < rnd t
      · have hc := LC.out k hlt
        rw [sps_get _ _ _ hlt] at hc
        have XS : Hid (spd t k = spN t k) := rfl
        rw [XS.out] at hc
        by_cases h0 : k = 0
        · subst h0
          have F1 : Hid (fmI (spN t) (0 + 1) = 0 ∧ fmV (spN t) (0 + 1) = spN t 0) := ⟨rfl, rfl⟩
          generalize spN t 0 = x at *
          rw [Nat.add_zero] at hc
          go_wp2
          go_round
          case rel => exact ⟨0 + 1, by omega, by go_num, by rw [F1.out.1]; rfl, by rw [F1.out.2]⟩
          case measure => simp [intOf]; omega
        · have hk0 : ((k : Int) == 0) = false := beq_eq_false_iff_ne.2 (by omega)
          by_cases hup : fmV (spN t) k < spN t k
          · have U := fmTo_up hup
            have F1 : Hid (fmI (spN t) (k + 1) = k ∧ fmV (spN t) (k + 1) = spN t k) := by unfold fmI fmV; rw [U]; exact ⟨rfl, rfl⟩
            clear U
            generalize spN t k = x at *
            generalize fmV (spN t) k = y at *
            generalize fmI (spN t) k = z at *
            go_wp2
            go_round
            case rel => exact ⟨k + 1, by omega, by go_num, by rw [F1.out.1], by rw [F1.out.2]⟩
            case measure => simp [intOf]; omega
          · have U := fmTo_stay h0 hup
            have F1 : Hid (fmI (spN t) (k + 1) = fmI (spN t) k ∧ fmV (spN t) (k + 1) = fmV (spN t) k) := by unfold fmI fmV; rw [U]; exact ⟨rfl, rfl⟩
            clear U
            generalize spN t k = x at *
            generalize fmV (spN t) k = y at *
            generalize fmI (spN t) k = z at *
            go_wp2
            go_round
            case rel => exact ⟨k + 1, by omega, by go_num, by rw [F1.out.1], by rw [F1.out.2]⟩
            case measure => simp [intOf]; omega
      · have e : k = rnd t := by omega
        subst e
        go_wp2
        go_ret3
        exact ⟨rfl, hb2⟩




theorem acN_zero (t : List (List Int)) (k : Nat) : acN t 0 k = 0 := rfl


set_option maxHeartbeats 1000000 in
theorem rFarthest_any (v : Value) (t : List (List Int)) (n : Int) (w : World) (hv : RowsAt w v t) :
    Calls Try.prog 48 #[v, .int .i64 n] w fun e w' => e = .returned (.tuple #[.int .i64 (qi t (spanB n) (fmI (acN t n.toNat) (rnd t))), .int .i64 (qi t (spanB n) (fmV (acN t n.toNat) (rnd t))), .int .i64 (qe t (spanB n))]) ∧ Below w.heap.size w w' := by
  cases hy : vld t with
  | false =>
    rw [qi_no hy, qi_no hy, qe_no hy]
    have Y := Lib.hid hy
    clear hy
    go_enter Try.func48, Try.ntmps48
    go_wp2_with (first
      | (go_at_call 22; refine (rValid_any _ _ _ hv).mono ?_; rintro e w' ⟨rfl, rfl⟩; rw [Y.out]))
    go_ret3
    exact ⟨rfl, Below.refl _ _⟩
  | true =>
    have ht := (vld_iff t).1 hy
    have hr := ht.rnd_pos
    have hr2 := ht.rnd_le
    by_cases hs : 0 ≤ n ∧ n ≤ 1000000
    · rw [(spanB_iff n).2 hs, qi_yes hy, qi_yes hy, qe_yes hy]
      obtain ⟨hs0, hs1⟩ := hs
      obtain ⟨m, rfl⟩ := Int.eq_ofNat_of_zero_le hs0
      rw [Int.toNat_natCast]
      have Y := Lib.hid hy
      have A0 : Hid (acc (spd t) 0 m = acN t m 0) := rfl
      clear hy
      go_enter Try.func48, Try.ntmps48
      go_wp2_with (first
        | (go_at_call 22; refine (rValid_any _ _ _ hv).mono ?_; rintro e w' ⟨rfl, rfl⟩; rw [Y.out])
        | (go_at_call 57; refine (far_any _ _ _ _ _ hv ht (by omega) (by omega) (by omega)).mono ?_; rintro e w1 ⟨rfl, hb1⟩; have hv1 := hv.below hb1)
        | (go_at_call 72; refine (rround_any _ _ _ hv1 ht).mono ?_; rintro e w' ⟨rfl, rfl⟩))
      go_loop [4, 5, 7, 23] (fun hr' top now i => ∃ k : Nat, k ≤ rnd t ∧ i = .int .i64 k ∧ now = .int .i64 (acN t m k) ∧ hr' = .int .i64 (fmI (acN t m) k) ∧ top = .int .i64 (fmV (acN t m) k)) (fun _ _ _ i => rnd t - (intOf i).toNat)
      case atStart => exact ⟨0, Nat.zero_le _, rfl, rfl, rfl, rfl⟩
      case round =>
        obtain ⟨k, hk, rfl, rfl, rfl, rfl⟩ := hrel
        by_cases hlt : k < rnd t
        · have A := Lib.hid (acN_succ t m k)
          have bd1 := acN_bd ht m k
          have bd2 := ht.bd ((k : Int) + m)
          have bd3 := ht.bd k
          clear hv
          by_cases hm0 : 0 < m
          · by_cases h0 : k = 0
            · subst h0
              have F1 : Hid (fmI (acN t m) (0 + 1) = 0 ∧ fmV (acN t m) (0 + 1) = acN t m 0) := ⟨rfl, rfl⟩
              have bd4 := ht.bd m
              have bd5 := ht.bd 0
              generalize acN t m 0 = x at *
              go_wp2_with fail
              refine (rspeed_any _ _ _ _ hv1 ht).mono ?_
              rintro e w' ⟨rfl, rfl⟩
              go_wp2_with fail
              refine (rspeed_any _ _ _ _ hv1 ht).mono ?_
              rintro e w' ⟨rfl, rfl⟩
              go_wp2
              go_round
              case rel => exact ⟨0 + 1, by omega, by go_num, by first | (rw [A.out]; done) | (rw [A.out]; simp), by first | (rw [F1.out.1]; done) | (rw [F1.out.1]; rfl), by rw [F1.out.2]⟩
              case measure => simp [intOf]; omega
            · have hk0 : ((k : Int) == 0) = false := beq_eq_false_iff_ne.2 (by omega)
              by_cases hup : fmV (acN t m) k < acN t m k
              · have U := fmTo_up hup
                have F1 : Hid (fmI (acN t m) (k + 1) = k ∧ fmV (acN t m) (k + 1) = acN t m k) := by unfold fmI fmV; rw [U]; exact ⟨rfl, rfl⟩
                clear U
                generalize acN t m k = x at *
                generalize fmV (acN t m) k = y at *
                generalize fmI (acN t m) k = z at *
                go_wp2_with fail
                refine (rspeed_any _ _ _ _ hv1 ht).mono ?_
                rintro e w' ⟨rfl, rfl⟩
                go_wp2_with fail
                refine (rspeed_any _ _ _ _ hv1 ht).mono ?_
                rintro e w' ⟨rfl, rfl⟩
                go_wp2
                go_round
                case rel => exact ⟨k + 1, by omega, by go_num, by first | (rw [A.out]; done) | (rw [A.out]; simp), by first | (rw [F1.out.1]; done) | (rw [F1.out.1]; rfl), by rw [F1.out.2]⟩
                case measure => simp [intOf]; omega
              · have U := fmTo_stay h0 hup
                have F1 : Hid (fmI (acN t m) (k + 1) = fmI (acN t m) k ∧ fmV (acN t m) (k + 1) = fmV (acN t m) k) := by unfold fmI fmV; rw [U]; exact ⟨rfl, rfl⟩
                clear U
                generalize acN t m k = x at *
                generalize fmV (acN t m) k = y at *
                generalize fmI (acN t m) k = z at *
                go_wp2_with fail
                refine (rspeed_any _ _ _ _ hv1 ht).mono ?_
                rintro e w' ⟨rfl, rfl⟩
                go_wp2_with fail
                refine (rspeed_any _ _ _ _ hv1 ht).mono ?_
                rintro e w' ⟨rfl, rfl⟩
                go_wp2
                go_round
                case rel => exact ⟨k + 1, by omega, by go_num, by first | (rw [A.out]; done) | (rw [A.out]; simp), by first | (rw [F1.out.1]; done) | (rw [F1.out.1]; rfl), by rw [F1.out.2]⟩
                case measure => simp [intOf]; omega
          · have A2 : acN t m (k + 1) = acN t m k := by
              have e : m = 0 := by omega
              subst e
              rw [acN_zero, acN_zero]
            clear A
            have A := Lib.hid A2
            clear A2
            by_cases h0 : k = 0
            · subst h0
              have F1 : Hid (fmI (acN t m) (0 + 1) = 0 ∧ fmV (acN t m) (0 + 1) = acN t m 0) := ⟨rfl, rfl⟩
              have bd4 := ht.bd m
              have bd5 := ht.bd 0
              generalize acN t m 0 = x at *
              go_wp2
              go_round
              case rel => exact ⟨0 + 1, by omega, by go_num, by first | (rw [A.out]; done) | (rw [A.out]; simp), by first | (rw [F1.out.1]; done) | (rw [F1.out.1]; rfl), by rw [F1.out.2]⟩
              case measure => simp [intOf]; omega
            · have hk0 : ((k : Int) == 0) = false := beq_eq_false_iff_ne.2 (by omega)
              by_cases hup : fmV (acN t m) k < acN t m k
              · have U := fmTo_up hup
                have F1 : Hid (fmI (acN t m) (k + 1) = k ∧ fmV (acN t m) (k + 1) = acN t m k) := by unfold fmI fmV; rw [U]; exact ⟨rfl, rfl⟩
                clear U
                generalize acN t m k = x at *
                generalize fmV (acN t m) k = y at *
                generalize fmI (acN t m) k = z at *
                go_wp2
                go_round
                case rel => exact ⟨k + 1, by omega, by go_num, by first | (rw [A.out]; done) | (rw [A.out]; simp), by first | (rw [F1.out.1]; done) | (rw [F1.out.1]; rfl), by rw [F1.out.2]⟩
                case measure => simp [intOf]; omega
              · have U := fmTo_stay h0 hup
                have F1 : Hid (fmI (acN t m) (k + 1) = fmI (acN t m) k ∧ fmV (acN t m) (k + 1) = fmV (acN t m) k) := by unfold fmI fmV; rw [U]; exact ⟨rfl, rfl⟩
                clear U
                generalize acN t m k = x at *
                generalize fmV (acN t m) k = y at *
                generalize fmI (acN t m) k = z at *
                go_wp2
                go_round
                case rel => exact ⟨k + 1, by omega, by go_num, by first | (rw [A.out]; done) | (rw [A.out]; simp), by first | (rw [F1.out.1]; done) | (rw [F1.out.1]; rfl), by rw [F1.out.2]⟩
                case measure => simp [intOf]; omega
        · have e : k = rnd t := by omega
          subst e
          go_wp2
          go_ret3
          exact ⟨rfl, hb1⟩
    · rw [show spanB n = false by rw [← Bool.not_eq_true, spanB_iff]; exact hs]
      rw [qi_mid, qi_mid, qe_mid hy]
      have Y := Lib.hid hy
      clear hy
      go_enter Try.func48, Try.ntmps48
      by_cases h0 : n < 0
      · go_wp2_with (first
          | (go_at_call 22; refine (rValid_any _ _ _ hv).mono ?_; rintro e w' ⟨rfl, rfl⟩; rw [Y.out]))
        go_ret3
        exact ⟨rfl, Below.refl _ _⟩
      · have h1 : 1000000 < n := by omega
        go_wp2_with (first
          | (go_at_call 22; refine (rValid_any _ _ _ hv).mono ?_; rintro e w' ⟨rfl, rfl⟩; rw [Y.out]))
        go_ret3
        exact ⟨rfl, Below.refl _ _⟩

end Go.Proofs.Ytflhpnhehaokpaa
