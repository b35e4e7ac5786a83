/- The walk of the law TideBeats. -/
import Derived.Test.YtflhpnhehaokpaaH
namespace Go.Proofs.Ytflhpnhehaokpaa
open Go.RowKit

theorem tOnce_v (v : Value) (t : List (List Int)) (w : World) (hv : RowsAt w v t) (hy : vld t = true) :
    Calls Try.prog 27 #[v] w (GivesLE (sps t (bt (spd t) (rnd t))) 0 w) := by
  have := tOnce_any v t w hv
  rwa [ql_yes hy, qe_yes hy] at this

set_option maxHeartbeats 2000000 in
theorem TideBeats_early (v : Value) (t : List (List Int)) (h n : Int) (w : World) (hv : RowsAt w v t)
    (hg : ¬ (wide t = false ∧ vld t = true ∧ hourB h = true)) :
    Calls Try.prog 5 #[v, .int .i64 h, .int .u16 n] w fun e w' => e = .returned (.bool true) ∧ Below w.heap.size w w' := by
  cases hw : wide t with
  | true =>
    have W := Lib.hid hw
    clear hw hg
    go_enter Try.func5, Try.ntmps5
    go_wp2_with (first
      | (go_at_call 15; refine (wide_any _ _ _ hv).mono ?_; rintro e w' ⟨rfl, rfl⟩; rw [W.out])
      | (go_at_call 22; refine (rValid_any _ _ _ hv).mono ?_; rintro e w' ⟨rfl, rfl⟩; rw [Y.out])
      | (go_at_call_of 23 (Value.int .i64 h); refine (rIsHour_any _ _).mono ?_; rintro e w' ⟨rfl, rfl⟩; rw [HH.out])
      | (go_at_call 16; refine (awake_any _).mono ?_; rintro e w1 ⟨rfl, hb1⟩))
    go_ret
    exact ⟨rfl, hb1⟩
  | false =>
    have W := Lib.hid hw
    cases hy : vld t with
    | false =>
      have Y := Lib.hid hy
      clear hw hy hg
      go_enter Try.func5, Try.ntmps5
      go_wp2_with (first
        | (go_at_call 15; refine (wide_any _ _ _ hv).mono ?_; rintro e w' ⟨rfl, rfl⟩; rw [W.out])
        | (go_at_call 22; refine (rValid_any _ _ _ hv).mono ?_; rintro e w' ⟨rfl, rfl⟩; rw [Y.out])
        | (go_at_call_of 23 (Value.int .i64 h); refine (rIsHour_any _ _).mono ?_; rintro e w' ⟨rfl, rfl⟩; rw [HH.out])
        | (go_at_call 16; refine (awake_any _).mono ?_; rintro e w1 ⟨rfl, hb1⟩))
      go_ret
      exact ⟨rfl, hb1⟩
    | true =>
      have Y := Lib.hid hy
      cases hh : hourB h with
      | false =>
        have HH := Lib.hid hh
        clear hw hy hh hg
        go_enter Try.func5, Try.ntmps5
        go_wp2_with (first
          | (go_at_call 15; refine (wide_any _ _ _ hv).mono ?_; rintro e w' ⟨rfl, rfl⟩; rw [W.out])
          | (go_at_call 22; refine (rValid_any _ _ _ hv).mono ?_; rintro e w' ⟨rfl, rfl⟩; rw [Y.out])
          | (go_at_call_of 23 (Value.int .i64 h); refine (rIsHour_any _ _).mono ?_; rintro e w' ⟨rfl, rfl⟩; rw [HH.out])
          | (go_at_call 16; refine (awake_any _).mono ?_; rintro e w1 ⟨rfl, hb1⟩))
        go_ret
        exact ⟨rfl, hb1⟩
      | true => exact absurd ⟨hw, hy, hh⟩ hg




set_option maxRecDepth 100000 in
set_option maxHeartbeats 4000000 in
theorem TideBeats_main (v : Value) (t : List (List Int)) (h : Int) (n : Nat) (w : World) (hv : RowsAt w v t) (hn : n ≤ 65535)
    (hw : wide t = false) (hy : vld t = true) (hh : hourB h = true) :
    Calls Try.prog 5 #[v, .int .i64 h, .int .u16 n] w fun e w' => e = .returned (.bool true) ∧ Below w.heap.size w w' := by
  have hb := (hourB_iff h).1 hh
  have ht := (vld_iff t).1 hy
  have hr := ht.rnd_pos
  have hr2 := ht.rnd_le
  have hper := spd_per t
  have hb1 := bt_pos (f := spd t) hr
  have hb2 := bt_le (f := spd t) hr
  have hbm := bt_mod (f := spd t) hr
  have PB := Lib.hid (bt_per hr hper)
  have BI := Lib.hid (bt_iff hr hper)
  have W := Lib.hid hw
  have Y := Lib.hid hy
  have HH := Lib.hid hh
  have HB := Lib.hid (fun v w hv => tBeat_v v t w hv hy)
  have HO := Lib.hid (fun v w hv => tOnce_v v t w hv hy)
  have hI := Inv.start hv
  generalize bt (spd t) (rnd t) = b at *
  have hmod0 : ((rnd t : Int) % (b : Int) != 0) = false := by rw [← Int.natCast_emod, hbm]; rfl
  have htb := tmod_bd h b hb1
  have hq1 : 0 ≤ h.tmod b % (b : Int) := Int.emod_nonneg _ (by omega)
  have hq2 : h.tmod b % (b : Int) < b := Int.emod_lt_of_pos _ (by omega)
  have LE : Hid ((sps t b).getD (h.tmod b % (b : Int)).toNat 0 = spd t h) := by
    have e1 := mod_twice h b hb1
    rw [Int.tmod_eq_emod_of_nonneg (by omega), Int.add_emod_right] at e1
    show (sps t b).getD (h.tmod b % (b : Int)).toNat 0 = spd t h
    rw [sps_get _ _ _ (by omega), Int.toNat_of_nonneg hq1, e1, PB.out.mod]
  have hpr : 0 ≤ (b : Int) * ((n : Int) % 10) ∧ (b : Int) * ((n : Int) % 10) ≤ 249480 := by
    have h1 : b * (n % 10) ≤ 27720 * 9 := Nat.mul_le_mul (by omega) (by omega)
    have e : (b : Int) * ((n : Int) % 10) = ((b * (n % 10) : Nat) : Int) := by simp
    rw [e]; omega
  have SL : spd t (h + b * ((n : Int) % 10)) = spd t h := by
    have := PB.out.mul ((n : Int) % 10) h
    rw [← this, Int.mul_comm]
  obtain ⟨m, hby⟩ : ∃ m : Nat, 1 + (n : Int) % (rnd t : Int) = (m : Int) := ⟨1 + n % rnd t, by simp⟩
  have hm1 : m ≤ 30000 := by have := Nat.mod_lt n hr; rw [← Int.natCast_emod] at hby; omega
  have TT : Hid ((repB (spd t) b m == ((m : Int) % (b : Int) == 0)) = true) := by
    show (repB (spd t) b m == ((m : Int) % (b : Int) == 0)) = true
    rw [beq_iff_eq, Bool.eq_iff_iff, repB_per hb1 PB.out, BI.out m, beq_iff_eq, ← Int.natCast_emod]
    omega
  have hnr : 0 ≤ (n : Int) % (rnd t : Int) ∧ (n : Int) % (rnd t : Int) ≤ 27720 := by have := Nat.mod_lt n hr; rw [← Int.natCast_emod]; omega
  have HBY := Lib.hid hby
  clear hw hy hh hv hbm
  cases hl : hourB (h + b * ((n : Int) % 10)) with
  | true =>
    have hlb := (hourB_iff _).1 hl
    have HL := Lib.hid hl
    have hsl : (spd t h != spd t (h + b * ((n : Int) % 10))) = false := by rw [SL]; simp
    clear hl SL hby hper
    go_enter Try.func5, Try.ntmps5
    go_wp2_with (first
      | (go_at_call 15; refine (wide_any _ _ _ hI.r).mono ?_; rintro e w' ⟨rfl, rfl⟩; rw [W.out])
      | (go_at_call 22; refine (rValid_any _ _ _ hI.r).mono ?_; rintro e w' ⟨rfl, rfl⟩; rw [Y.out])
      | (go_at_call_of 23 (Value.int .i64 h); refine (rIsHour_any _ _).mono ?_; rintro e w' ⟨rfl, rfl⟩; rw [HH.out])
      | (go_at_call 23; refine (rIsHour_any _ _).mono ?_; rintro e w' ⟨rfl, rfl⟩; rw [HL.out])
      | (go_at_call 26; refine (HB.out _ _ hI.r).mono ?_; rintro e wn ⟨rfl, hbn⟩; replace hI := hI.step hbn; clear hbn)
      | (go_at_call 24; refine (tRound_v _ _ _ hI.r Y.out).mono ?_; rintro e wn ⟨rfl, hbn⟩; replace hI := hI.step hbn; clear hbn)
      | (go_at_call 27; refine (HO.out _ _ hI.r).mono ?_; rintro e wn ⟨ov, rfl, ho, hbn⟩; replace hI := hI.step hbn; clear hbn; have hlc := ints_cell ho (by rw [sps_length]; omega); rw [sps_length] at hlc; obtain ⟨lb, lo, lcap, rfl, hlc2⟩ := hlc; have hhc := hlc2 (h.tmod b % b).toNat (by omega); rw [LE.out] at hhc; clear hlc2)
      | (go_at_call_of 17 (Value.int .i64 h); refine (tSpeed_v _ _ _ _ hI.r Y.out (by omega) (by omega)).mono ?_; rintro e wn ⟨rfl, hbn⟩; replace hI := hI.step hbn; replace ho := ho.below hbn; replace hhc := keep_cell hbn hhc; clear hbn)
      | (go_at_call 17; refine (tSpeed_v _ _ _ _ hI.r Y.out (by omega) (by omega)).mono ?_; rintro e wn ⟨rfl, hbn⟩; replace hI := hI.step hbn; replace ho := ho.below hbn; replace hhc := keep_cell hbn hhc; clear hbn))
    have hby := HBY.out
    rw [hby]
    clear hhc hby
    have hIb := hI.b
    clear hI
    go_loopw [18, 128] (fun s i wi => ∃ k : Nat, k ≤ b ∧ i = .int .i64 k ∧ s = .bool (repB (spd t) k m) ∧ Below wn.heap.size wn wi) (fun _ i _ => b - (intOf i).toNat)
    case atStart => exact ⟨0, Nat.zero_le _, rfl, rfl, Below.refl _ _⟩
    case round =>
      obtain ⟨k, hk, rfl, rfl, hbi⟩ := hrel
      by_cases hlt2 : k < b
      · have hlc := ints_cell ho (by rw [sps_length]; omega)
        rw [sps_length] at hlc
        obtain ⟨lb', lo', lcap', heq, hlc2⟩ := hlc
        obtain ⟨⟨rfl, rfl⟩, rfl⟩ : (lb = lb' ∧ lo = lo') ∧ lcap = lcap' := by simpa using heq
        clear heq
        have hs := repB_succ (spd t) k m
        have hm := Nat.mod_lt (k + m) hb1
        have hc1 := hlc2 k hlt2
        have hc2 := hlc2 ((k + m) % b) hm
        rw [sps_get _ _ _ hlt2] at hc1
        rw [sps_get _ _ _ hm, Int.natCast_emod, PB.out.mod, Int.natCast_add] at hc2
        have hc1' := keep_cell hbi hc1
        have hc2' := keep_cell hbi hc2
        clear hc1 hc2 hlc2
        generalize spd t k = s1 at *
        generalize spd t ((k : Int) + m) = s2 at *
        have hm1 : 0 ≤ ((k : Int) + m) % (b : Int) := Int.emod_nonneg _ (by omega)
        have hm2 : ((k : Int) + m) % (b : Int) < b := Int.emod_lt_of_pos _ (by omega)
        have hne : ((b : Int) == 0) = false := beq_eq_false_iff_ne.2 (by omega)
        cases hp : repB (spd t) k m with
        | true =>
          by_cases he : s1 = s2
          · have hE : (s1 == s2) = true := by simpa using he
            rw [hp, hE] at hs
            have S := Lib.hid hs
            have PP := Lib.hid hp
            clear hs he hp
            go_wp2
            refine wp_region_quiet_lit (by kernel_rfl) (by kernel_rfl) ?_
            repeat (any_goals (first | go_big_quiet_step (fail) | quiet_step (fail)))
            all_goals (refine wpQuiet_nil ?_; intro _ hw'; obtain ⟨nq, hw''⟩ := hw'; subst hw'')
            all_goals go_wp2
            go_roundw
            case rel => exact ⟨k + 1, by omega, by go_num, by rw [S.out]; rfl, below_drewN hbi _⟩
            case measure => simp [intOf]; omega
          · have hE : (s1 == s2) = false := by simpa using he
            rw [hp, hE] at hs
            have S := Lib.hid hs
            have PP := Lib.hid hp
            clear hs he hp
            go_wp2
            refine wp_region_quiet_lit (by kernel_rfl) (by kernel_rfl) ?_
            repeat (any_goals (first | go_big_quiet_step (fail) | quiet_step (fail)))
            all_goals (refine wpQuiet_nil ?_; intro _ hw'; obtain ⟨nq, hw''⟩ := hw'; subst hw'')
            all_goals go_wp2
            go_roundw
            case rel => exact ⟨k + 1, by omega, by go_num, by rw [S.out]; rfl, below_drewN hbi _⟩
            case measure => simp [intOf]; omega
        | false =>
          rw [hp] at hs
          have S := Lib.hid hs
          have PP := Lib.hid hp
          clear hs hp
          go_wp2
          refine wp_region_quiet_lit (by kernel_rfl) (by kernel_rfl) ?_
          repeat (any_goals (first | go_big_quiet_step (fail) | quiet_step (fail)))
          all_goals (refine wpQuiet_nil ?_; intro _ hw'; obtain ⟨nq, hw''⟩ := hw'; subst hw'')
          all_goals go_wp2
          go_roundw
          case rel => exact ⟨k + 1, by omega, by go_num, by rw [S.out]; rfl, below_drewN hbi _⟩
          case measure => simp [intOf]; omega
      · have e : k = b := by omega
        subst e
        clear ho
        have T := TT.out
        go_wp2_with (first
          | (go_at_call 16; refine (awake_any _).mono ?_; rintro e w1 ⟨rfl, hb1⟩))
        go_ret
        exact ⟨rfl, below_trans (below_trans hIb hbi) hb1⟩
  | false =>
    have HL := Lib.hid hl
    clear hl SL hby hper
    go_enter Try.func5, Try.ntmps5
    go_wp2_with (first
      | (go_at_call 15; refine (wide_any _ _ _ hI.r).mono ?_; rintro e w' ⟨rfl, rfl⟩; rw [W.out])
      | (go_at_call 22; refine (rValid_any _ _ _ hI.r).mono ?_; rintro e w' ⟨rfl, rfl⟩; rw [Y.out])
      | (go_at_call_of 23 (Value.int .i64 h); refine (rIsHour_any _ _).mono ?_; rintro e w' ⟨rfl, rfl⟩; rw [HH.out])
      | (go_at_call 23; refine (rIsHour_any _ _).mono ?_; rintro e w' ⟨rfl, rfl⟩; rw [HL.out])
      | (go_at_call 26; refine (HB.out _ _ hI.r).mono ?_; rintro e wn ⟨rfl, hbn⟩; replace hI := hI.step hbn; clear hbn)
      | (go_at_call 24; refine (tRound_v _ _ _ hI.r Y.out).mono ?_; rintro e wn ⟨rfl, hbn⟩; replace hI := hI.step hbn; clear hbn)
      | (go_at_call 27; refine (HO.out _ _ hI.r).mono ?_; rintro e wn ⟨ov, rfl, ho, hbn⟩; replace hI := hI.step hbn; clear hbn; have hlc := ints_cell ho (by rw [sps_length]; omega); rw [sps_length] at hlc; obtain ⟨lb, lo, lcap, rfl, hlc2⟩ := hlc; have hhc := hlc2 (h.tmod b % b).toNat (by omega); rw [LE.out] at hhc; clear hlc2)
      | (go_at_call_of 17 (Value.int .i64 h); refine (tSpeed_v _ _ _ _ hI.r Y.out (by omega) (by omega)).mono ?_; rintro e wn ⟨rfl, hbn⟩; replace hI := hI.step hbn; replace ho := ho.below hbn; replace hhc := keep_cell hbn hhc; clear hbn)
      | (go_at_call 17; refine (tSpeed_v _ _ _ _ hI.r Y.out (by omega) (by omega)).mono ?_; rintro e wn ⟨rfl, hbn⟩; replace hI := hI.step hbn; replace ho := ho.below hbn; replace hhc := keep_cell hbn hhc; clear hbn))
    have hby := HBY.out
    rw [hby]
    clear hhc hby
    have hIb := hI.b
    clear hI
    go_loopw [18, 128] (fun s i wi => ∃ k : Nat, k ≤ b ∧ i = .int .i64 k ∧ s = .bool (repB (spd t) k m) ∧ Below wn.heap.size wn wi) (fun _ i _ => b - (intOf i).toNat)
    case atStart => exact ⟨0, Nat.zero_le _, rfl, rfl, Below.refl _ _⟩
    case round =>
      obtain ⟨k, hk, rfl, rfl, hbi⟩ := hrel
      by_cases hlt2 : k < b
      · have hlc := ints_cell ho (by rw [sps_length]; omega)
        rw [sps_length] at hlc
        obtain ⟨lb', lo', lcap', heq, hlc2⟩ := hlc
        obtain ⟨⟨rfl, rfl⟩, rfl⟩ : (lb = lb' ∧ lo = lo') ∧ lcap = lcap' := by simpa using heq
        clear heq
        have hs := repB_succ (spd t) k m
        have hm := Nat.mod_lt (k + m) hb1
        have hc1 := hlc2 k hlt2
        have hc2 := hlc2 ((k + m) % b) hm
        rw [sps_get _ _ _ hlt2] at hc1
        rw [sps_get _ _ _ hm, Int.natCast_emod, PB.out.mod, Int.natCast_add] at hc2
        have hc1' := keep_cell hbi hc1
        have hc2' := keep_cell hbi hc2
        clear hc1 hc2 hlc2
        generalize spd t k = s1 at *
        generalize spd t ((k : Int) + m) = s2 at *
        have hm1 : 0 ≤ ((k : Int) + m) % (b : Int) := Int.emod_nonneg _ (by omega)
        have hm2 : ((k : Int) + m) % (b : Int) < b := Int.emod_lt_of_pos _ (by omega)
        have hne : ((b : Int) == 0) = false := beq_eq_false_iff_ne.2 (by omega)
        cases hp : repB (spd t) k m with
        | true =>
          by_cases he : s1 = s2
          · have hE : (s1 == s2) = true := by simpa using he
            rw [hp, hE] at hs
            have S := Lib.hid hs
            have PP := Lib.hid hp
            clear hs he hp
            go_wp2
            refine wp_region_quiet_lit (by kernel_rfl) (by kernel_rfl) ?_
            repeat (any_goals (first | go_big_quiet_step (fail) | quiet_step (fail)))
            all_goals (refine wpQuiet_nil ?_; intro _ hw'; obtain ⟨nq, hw''⟩ := hw'; subst hw'')
            all_goals go_wp2
            go_roundw
            case rel => exact ⟨k + 1, by omega, by go_num, by rw [S.out]; rfl, below_drewN hbi _⟩
            case measure => simp [intOf]; omega
          · have hE : (s1 == s2) = false := by simpa using he
            rw [hp, hE] at hs
            have S := Lib.hid hs
            have PP := Lib.hid hp
            clear hs he hp
            go_wp2
            refine wp_region_quiet_lit (by kernel_rfl) (by kernel_rfl) ?_
            repeat (any_goals (first | go_big_quiet_step (fail) | quiet_step (fail)))
            all_goals (refine wpQuiet_nil ?_; intro _ hw'; obtain ⟨nq, hw''⟩ := hw'; subst hw'')
            all_goals go_wp2
            go_roundw
            case rel => exact ⟨k + 1, by omega, by go_num, by rw [S.out]; rfl, below_drewN hbi _⟩
            case measure => simp [intOf]; omega
        | false =>
          rw [hp] at hs
          have S := Lib.hid hs
          have PP := Lib.hid hp
          clear hs hp
          go_wp2
          refine wp_region_quiet_lit (by kernel_rfl) (by kernel_rfl) ?_
          repeat (any_goals (first | go_big_quiet_step (fail) | quiet_step (fail)))
          all_goals (refine wpQuiet_nil ?_; intro _ hw'; obtain ⟨nq, hw''⟩ := hw'; subst hw'')
          all_goals go_wp2
          go_roundw
          case rel => exact ⟨k + 1, by omega, by go_num, by rw [S.out]; rfl, below_drewN hbi _⟩
          case measure => simp [intOf]; omega
      · have e : k = b := by omega
        subst e
        clear ho
        have T := TT.out
        go_wp2_with (first
          | (go_at_call 16; refine (awake_any _).mono ?_; rintro e w1 ⟨rfl, hb1⟩))
        go_ret
        exact ⟨rfl, below_trans (below_trans hIb hbi) hb1⟩

theorem TideBeats_walk (v : Value) (t : List (List Int)) (h n : Int) (w : World) (hv : RowsAt w v t) (wn : (Lit.int .u16 n).wf = true) :
    Calls Try.prog 5 #[v, .int .i64 h, .int .u16 n] w fun e w' => e = .returned (.bool true) ∧ Below w.heap.size w w' := by
  have hn := u16_bd wn
  by_cases hg : wide t = false ∧ vld t = true ∧ hourB h = true
  · obtain ⟨n, rfl⟩ := Int.eq_ofNat_of_zero_le hn.1
    exact TideBeats_main v t h n w hv (by omega) hg.1 hg.2.1 hg.2.2
  · exact TideBeats_early v t h n w hv hg

end Go.Proofs.Ytflhpnhehaokpaa
