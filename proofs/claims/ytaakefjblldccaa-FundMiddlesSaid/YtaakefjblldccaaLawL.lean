/- The walk of the law FundMiddles. -/
import Derived.Test.YtaakefjblldccaaMz
import Derived.Test.YtaakefjblldccaaTt
import Derived.Test.YtaakefjblldccaaLawB
import Derived.Deep.RegionHeld3
import Derived.Deep.DeepCutAuto
namespace Go.Proofs.Ytaakefjblldccaa
open Go.RowKit

set_option maxRecDepth 100000 in
set_option maxHeartbeats 8000000 in
theorem FundMiddles_walk (v x : Value) (c ord : List Int) (n : Int) (w : World) (hv : IntsAt w v c) (hx : IntsAt w x ord) :
    Calls Try.prog 10 #[v, x, .int .i64 n] w fun e w' => e = .returned (.bool true) ∧ Below w.heap.size w w' := by
  have HV := Lib.hid hv
  have HX := Lib.hid hx
  have LG := Lib.hid (long_any v c w hv)
  have RV := Lib.hid (rValid_any v c w hv)
  have SN := Lib.hid sane_any
  have C1 := Lib.hid (fun (h : ord.length ≤ 40) => tTurn_any v x c ord n w hv hx h)
  have C3 := Lib.hid (fun W (hb : Below w.heap.size w W) => tMiddle_any v c n W (HV.out.below hb))
  unfold GivesU at C1
  unfold GivesM at C3
  by_cases h40 : 40 < c.length
  · have L : Hid (decide (40 < c.length) = true) := Lib.hid (decide_eq_true h40)
    obtain ⟨va, vc, rfl, hl, _⟩ := hv
    obtain ⟨xa, xc, rfl, hl2, _⟩ := hx
    clear h40
    go_enter Try.func10, Try.ntmps10
    go_wp2_with fail
    refine LG.out.mono ?_
    rintro e w' ⟨rfl, rfl⟩
    rw [L.out]
    go_wp2_with (go_at_call 19; refine (SN.out _).mono ?_; rintro e w' ⟨rfl, hbS⟩)
    go_ret
    exact ⟨rfl, hbS⟩
  · have L : Hid (decide (40 < c.length) = false) := Lib.hid (decide_eq_false h40)
    by_cases h41 : 40 < ord.length
    · have h41' : (40 : Int) < ord.length := by omega
      obtain ⟨va, vc, rfl, hl, _⟩ := hv
      obtain ⟨xa, xc, rfl, hl2, _⟩ := hx
      clear h40 h41
      go_enter Try.func10, Try.ntmps10
      go_wp2_with fail
      refine LG.out.mono ?_
      rintro e w' ⟨rfl, rfl⟩
      rw [L.out]
      go_wp2_with (go_at_call 19; refine (SN.out _).mono ?_; rintro e w' ⟨rfl, hbS⟩)
      go_ret
      exact ⟨rfl, hbS⟩
    · have h41' : ¬ (40 : Int) < ord.length := by omega
      have h42 : ord.length ≤ 40 := by omega
      cases hcv : cvl c with
      | false =>
        rw [hcv] at RV
        obtain ⟨va, vc, rfl, hl, _⟩ := hv
        obtain ⟨xa, xc, rfl, hl2, _⟩ := hx
        clear h40 h41 hcv
        go_enter Try.func10, Try.ntmps10
        go_wp2_with fail
        refine LG.out.mono ?_
        rintro e w' ⟨rfl, rfl⟩
        rw [L.out]
        go_wp2_with fail
        refine RV.out.mono ?_
        rintro e w' ⟨rfl, rfl⟩
        go_wp2_with (go_at_call 19; refine (SN.out _).mono ?_; rintro e w' ⟨rfl, hbS⟩)
        go_ret
        exact ⟨rfl, hbS⟩
      | true =>
        rw [hcv] at RV
        have hc := (cvl_iff c).1 hcv
        have HH := Lib.hid hc
        have hlo := hc.lo
        have hhi := hc.hi
        obtain ⟨b, off, cap, rfl, hcc⟩ := ints_cell hv (by omega)
        have HCC := Lib.hid hcc
        obtain ⟨xa, xc, rfl, hl2, _⟩ := hx
        clear h40 h41 hcc
        by_cases ha : askE c n = 0
        · obtain ⟨_, hn1, hn2⟩ := askE_ok2 ha
          have ht := hc.tot
          by_cases h7 : 7 < c.length
          · have ME := Lib.hid (show midE c n = 5 by unfold midE; rw [if_pos ha, if_pos h7])
            have MV := Lib.hid (show midV c n = [] by unfold midV; rw [if_neg (by rw [ME.out]; decide)])
            rw [ME.out, MV.out] at C3
            have h7' : (7 : Int) < c.length := by omega
            have A := Lib.hid ha
            clear hcv hc ha
            go_enter Try.func10, Try.ntmps10
            go_wp2_with fail
            refine LG.out.mono ?_
            rintro e w' ⟨rfl, rfl⟩
            rw [L.out]
            go_wp2_with fail
            refine RV.out.mono ?_
            rintro e w' ⟨rfl, rfl⟩
            go_wp2_with fail
            refine (C1.out h42).mono ?_
            rintro e w1 ⟨v1, l1, e1, rfl, hi1, hb1, _, hq2⟩
            have HB1 := Lib.hid hb1
            by_cases ho : okO c.length ord
            · obtain ⟨L0, hL⟩ := ho
              obtain ⟨rfl, rfl⟩ := (hq2 A.out).2 L0 hL
              have hO : OrdN c.length L0 := hL.2
              have I1 := Lib.hid hi1
              have TL := Lib.hid (show (turnS c L0 (zst c n)).1.length = c.length by rw [turnS_len]; simp [zst])
              have TT := Lib.hid (show tot (turnS c L0 (zst c n)).1 = n by rw [← sumI_self]; exact turn_all (fun x hx => (HH.out.holds x hx).1) hn1 hn2 hO)
              have TI := Lib.hid (turn_in (fun x hx => (HH.out.holds x hx).1) hn1 hO)
              have TC := Lib.hid (turn_cvl HH.out hn1 hO)
              clear hL hq2 hb1 hO
              generalize (turnS c L0 (zst c n)).1 = R at *
              obtain ⟨g, og, cg, rfl, hg⟩ := ints_cell hi1 (by rw [TL.out]; exact HH.out.lo)
              have RG := Lib.hid hg
              have TO := Lib.hid (total_any _ R w1 I1.out TC.out)
              rw [TT.out, TL.out] at TO
              rw [TL.out]
              clear hg hi1
              go_wp2_with fail
              refine TO.out.mono ?_
              rintro e w' ⟨rfl, rfl⟩
              go_wp2
              go_loopw [9] (fun i wr => ∃ k : Nat, k ≤ c.length ∧ i = .int .i64 k ∧ Below w1.heap.size w1 wr) (fun i _ => c.length - (intOf i).toNat)
              case atStart => exact ⟨0, Nat.zero_le _, rfl, Below.refl _ _⟩
              case round =>
                obtain ⟨k, hk, rfl, hbel⟩ := hrel
                by_cases hlt : k < c.length
                · have hlt' : (k : Int) < (c.length : Int) := by omega
                  have x1 := keep_cell hbel (RG.out k (by rw [TL.out]; exact hlt))
                  have c1 := keep_cell (HB1.out.trans (hbel.mono HB1.out.size)) (HCC.out k hlt)
                  have ti := TI.out k
                  have HBL := Lib.hid hbel
                  clear hbel
                  generalize R.getD k 0 = rk at *
                  generalize c.getD k 0 = ck at *
                  have g0 : decide (rk < 0) = false := decide_eq_false (by omega)
                  have g1 : decide (ck < rk) = false := decide_eq_false (by omega)
                  go_upto_region 10 with fail
                  refine wp_region_quiet_lit (by kernel_rfl) (by kernel_rfl) ?_
                  repeat (any_goals (first | go_big_quiet_step (fail) | quiet_step (fail)))
                  all_goals (refine wpQuiet_nil ?_; intro _ hw'; obtain ⟨nq, hw''⟩ := hw'; subst hw'')
                  go_wp2
                  go_roundw
                  case rel => exact ⟨k + 1, by omega, by go_num, below_drewN HBL.out _⟩
                  case measure => simp [intOf]; omega
                · have hkk : k = c.length := by omega
                  subst hkk
                  have HBX := Lib.hid (HB1.out.trans (hbel.mono HB1.out.size))
                  clear hbel
                  go_wp2_with fail
                  refine (C3.out wr HBX.out).mono ?_
                  rintro e w3 ⟨v3, rfl, hi3, hb3⟩
                  obtain ⟨a3, c3, rfl, _, _⟩ := hi3
                  have HB3 := Lib.hid (HBX.out.trans (hb3.mono HBX.out.size))
                  clear hb3
                  go_wp2_with (go_at_call 19; refine (SN.out _).mono ?_; rintro e w' ⟨rfl, hbS⟩)
                  go_ret
                  exact ⟨rfl, HB3.out.trans (hbS.mono HB3.out.size)⟩
            · obtain ⟨rfl, rfl⟩ := (hq2 A.out).1 ho
              obtain ⟨a1, c1, rfl, _, _⟩ := hi1
              clear hq2 hb1 ho
              go_wp2_with fail
              refine (C3.out w1 HB1.out).mono ?_
              rintro e w3 ⟨v3, rfl, hi3, hb3⟩
              obtain ⟨a3, c3, rfl, _, _⟩ := hi3
              have HB3 := Lib.hid (HB1.out.trans (hb3.mono HB1.out.size))
              clear hb3
              go_wp2_with (go_at_call 19; refine (SN.out _).mono ?_; rintro e w' ⟨rfl, hbS⟩)
              go_ret
              exact ⟨rfl, HB3.out.trans (hbS.mono HB3.out.size)⟩
          · have ME := Lib.hid (show midE c n = 0 by unfold midE; rw [if_pos ha, if_neg h7])
            have MV := Lib.hid (show midV c n = midL c n by unfold midV; rw [if_pos ME.out])
            rw [ME.out, MV.out] at C3
            have SV := Lib.hid (mid_sV ha (by omega))
            have ML := Lib.hid (mid_len c n)
            have MFA := Lib.hid (fun i hi => mid_facts (i := i) hc (by omega) hn1 hn2 hi)
            have A := Lib.hid ha
            generalize midL c n = ml at *
            clear hcv hc ha
            go_enter Try.func10, Try.ntmps10
            go_wp2_with fail
            refine LG.out.mono ?_
            rintro e w' ⟨rfl, rfl⟩
            rw [L.out]
            go_wp2_with fail
            refine RV.out.mono ?_
            rintro e w' ⟨rfl, rfl⟩
            go_wp2_with fail
            refine (C1.out h42).mono ?_
            rintro e w1 ⟨v1, l1, e1, rfl, hi1, hb1, _, hq2⟩
            have HB1 := Lib.hid hb1
            by_cases ho : okO c.length ord
            · obtain ⟨L0, hL⟩ := ho
              obtain ⟨rfl, rfl⟩ := (hq2 A.out).2 L0 hL
              have hO : OrdN c.length L0 := hL.2
              have I1 := Lib.hid hi1
              have TL := Lib.hid (show (turnS c L0 (zst c n)).1.length = c.length by rw [turnS_len]; simp [zst])
              have TT := Lib.hid (show tot (turnS c L0 (zst c n)).1 = n by rw [← sumI_self]; exact turn_all (fun x hx => (HH.out.holds x hx).1) hn1 hn2 hO)
              have TI := Lib.hid (turn_in (fun x hx => (HH.out.holds x hx).1) hn1 hO)
              have TC := Lib.hid (turn_cvl HH.out hn1 hO)
              clear hL hq2 hb1 hO
              generalize (turnS c L0 (zst c n)).1 = R at *
              obtain ⟨g, og, cg, rfl, hg⟩ := ints_cell hi1 (by rw [TL.out]; exact HH.out.lo)
              have RG := Lib.hid hg
              have TO := Lib.hid (total_any _ R w1 I1.out TC.out)
              rw [TT.out, TL.out] at TO
              rw [TL.out]
              clear hg hi1
              go_wp2_with fail
              refine TO.out.mono ?_
              rintro e w' ⟨rfl, rfl⟩
              go_wp2
              go_loopw [9] (fun i wr => ∃ k : Nat, k ≤ c.length ∧ i = .int .i64 k ∧ Below w1.heap.size w1 wr) (fun i _ => c.length - (intOf i).toNat)
              case atStart => exact ⟨0, Nat.zero_le _, rfl, Below.refl _ _⟩
              case round =>
                obtain ⟨k, hk, rfl, hbel⟩ := hrel
                by_cases hlt : k < c.length
                · have hlt' : (k : Int) < (c.length : Int) := by omega
                  have x1 := keep_cell hbel (RG.out k (by rw [TL.out]; exact hlt))
                  have c1 := keep_cell (HB1.out.trans (hbel.mono HB1.out.size)) (HCC.out k hlt)
                  have ti := TI.out k
                  have HBL := Lib.hid hbel
                  clear hbel
                  generalize R.getD k 0 = rk at *
                  generalize c.getD k 0 = ck at *
                  have g0 : decide (rk < 0) = false := decide_eq_false (by omega)
                  have g1 : decide (ck < rk) = false := decide_eq_false (by omega)
                  go_upto_region 10 with fail
                  refine wp_region_quiet_lit (by kernel_rfl) (by kernel_rfl) ?_
                  repeat (any_goals (first | go_big_quiet_step (fail) | quiet_step (fail)))
                  all_goals (refine wpQuiet_nil ?_; intro _ hw'; obtain ⟨nq, hw''⟩ := hw'; subst hw'')
                  go_wp2
                  go_roundw
                  case rel => exact ⟨k + 1, by omega, by go_num, below_drewN HBL.out _⟩
                  case measure => simp [intOf]; omega
                · have hkk : k = c.length := by omega
                  subst hkk
                  have HBX := Lib.hid (HB1.out.trans (hbel.mono HB1.out.size))
                  clear hbel
                  go_wp2_with fail
                  refine (C3.out wr HBX.out).mono ?_
                  rintro e w3 ⟨v3, rfl, hi3, hb3⟩
                  have I3 := Lib.hid hi3
                  have HB3 := Lib.hid (HBX.out.trans (hb3.mono HBX.out.size))
                  clear hb3
                  obtain ⟨bm, om, cm, _, rfl, hm⟩ := rats_cell hi3 (by rw [ML.out]; exact HH.out.lo)
                  have RM := Lib.hid hm
                  clear hi3 hm
                  go_wp2_with fail
                  refine (tShares_any _ _ c _ n w3 (HV.out.below HB3.out) I3.out).mono ?_
                  rintro e w4 ⟨rfl, hb4⟩
                  rw [SV.out.1, SV.out.2]
                  have HB4 := Lib.hid (HB3.out.trans (hb4.mono HB3.out.size))
                  have RM4 := Lib.hid (fun j hj => (show w4.cell? ⟨bm, om + j * 2, none⟩ = _ ∧ w4.cell? ⟨bm, om + j * 2 + 1, none⟩ = _ from ⟨keep_cell hb4 (RM.out j hj).1, keep_cell hb4 (RM.out j hj).2⟩))
                  clear hb4 RM I3
                  rw [ML.out]
                  go_wp2
                  go_loopw [14] (fun i wr => ∃ k : Nat, k ≤ c.length ∧ i = .int .i64 k ∧ Below w4.heap.size w4 wr) (fun i _ => c.length - (intOf i).toNat)
                  case atStart => exact ⟨0, Nat.zero_le _, rfl, Below.refl _ _⟩
                  case round =>
                    obtain ⟨k, hk, rfl, hbel⟩ := hrel
                    by_cases hlt : k < c.length
                    · have hlt' : (k : Int) < (c.length : Int) := by omega
                      obtain ⟨x0, d0⟩ := RM4.out k (by rw [ML.out]; exact hlt)
                      have x1 := keep_cell hbel x0
                      have d1 := keep_cell hbel d0
                      have hbw := HB4.out.trans (hbel.mono HB4.out.size)
                      have c1 := keep_cell hbw (HCC.out k hlt)
                      have hcx := HH.out.holds _ (mem_getD hlt)
                      have MF := MFA.out k hlt
                      have m1 := MF.lo
                      have m2 := MF.hi
                      have m3 := MF.d1
                      have m4 := MF.d2
                      have HBL := Lib.hid hbel
                      have TQ := Lib.hid (fun q => Calls.quiet_of_same ((total_any (.slice (some ⟨b, off, none⟩) c.length cap) c (wr.drewN q) (HV.out.below (below_drewN hbw q)) HH.out).mono fun _ _ h => ⟨h.1, h.2.symm⟩))
                      clear x0 d0 hbel hbw MF
                      generalize tot c = T at *
                      generalize c.getD k 0 = ck at *
                      generalize ml.getD k (0, 0) = r at *
                      obtain ⟨p, d⟩ := r
                      simp only at x1 d1 m1 m2 m3 m4
                      have hla : 0 ≤ max (n - (T - ck)) 0 ∧ max (n - (T - ck)) 0 ≤ 1000 := by omega
                      have hmi : 0 ≤ min ck n ∧ min ck n ≤ 1000 := by omega
                      have b1 : 0 ≤ max (n - (T - ck)) 0 * d ∧ max (n - (T - ck)) 0 * d ≤ 1000 * 5040 := ⟨Int.mul_nonneg (by omega) (by omega), Int.mul_le_mul (by omega) (by omega) (by omega) (by omega)⟩
                      have b2 : 0 ≤ min ck n * d ∧ min ck n * d ≤ 1000 * 5040 := ⟨Int.mul_nonneg (by omega) (by omega), Int.mul_le_mul (by omega) (by omega) (by omega) (by omega)⟩
                      have g0 : decide (p < max (n - (T - ck)) 0 * d) = false := decide_eq_false (by omega)
                      have g1 : decide (min ck n * d < p) = false := decide_eq_false (by omega)
                      go_upto_region 21 with fail
                      refine wp_region_quiet_lit (by kernel_rfl) (by kernel_rfl) ?_
                      repeat (any_goals (first | go_big_quiet_step ((go_at_call 26; with_reducible exact TQ.out _)) | quiet_step (fail)))
                      all_goals (refine wpQuiet_nil ?_; intro _ hw'; obtain ⟨nq, hw''⟩ := hw'; subst hw'')
                      clear TQ
                      have x1 := show (wr.drewN nq).cell? _ = _ from x1
                      have d1 := show (wr.drewN nq).cell? _ = _ from d1
                      have c1 := show (wr.drewN nq).cell? _ = _ from c1
                      have HBQ := Lib.hid (below_drewN HBL.out nq)
                      generalize wr.drewN nq = wq at *
                      go_upto_region 22 with fail
                      refine wp_region_quiet_lit (by kernel_rfl) (by kernel_rfl) ?_
                      repeat (any_goals (first | go_big_quiet_step (fail) | quiet_step (fail)))
                      all_goals (refine wpQuiet_nil ?_; intro _ hw'; obtain ⟨nq, hw''⟩ := hw'; subst hw'')
                      go_wp2
                      go_roundw
                      case rel => exact ⟨k + 1, by omega, by go_num, below_drewN HBQ.out _⟩
                      case measure => simp [intOf]; omega
                    · have hkk : ¬ (k : Int) < (c.length : Int) := by omega
                      have HBL := Lib.hid (HB4.out.trans (hbel.mono HB4.out.size))
                      clear hbel
                      go_wp2_with (go_at_call 19; refine (SN.out _).mono ?_; rintro e w' ⟨rfl, hbS⟩)
                      go_ret
                      exact ⟨rfl, HBL.out.trans (hbS.mono HBL.out.size)⟩
            · obtain ⟨rfl, rfl⟩ := (hq2 A.out).1 ho
              obtain ⟨a1, c1, rfl, _, _⟩ := hi1
              clear hq2 hb1 ho
              go_wp2_with fail
              refine (C3.out w1 HB1.out).mono ?_
              rintro e w3 ⟨v3, rfl, hi3, hb3⟩
              have I3 := Lib.hid hi3
              have HB3 := Lib.hid (HB1.out.trans (hb3.mono HB1.out.size))
              clear hb3
              obtain ⟨bm, om, cm, _, rfl, hm⟩ := rats_cell hi3 (by rw [ML.out]; exact HH.out.lo)
              have RM := Lib.hid hm
              clear hi3 hm
              go_wp2_with fail
              refine (tShares_any _ _ c _ n w3 (HV.out.below HB3.out) I3.out).mono ?_
              rintro e w4 ⟨rfl, hb4⟩
              rw [SV.out.1, SV.out.2]
              have HB4 := Lib.hid (HB3.out.trans (hb4.mono HB3.out.size))
              have RM4 := Lib.hid (fun j hj => (show w4.cell? ⟨bm, om + j * 2, none⟩ = _ ∧ w4.cell? ⟨bm, om + j * 2 + 1, none⟩ = _ from ⟨keep_cell hb4 (RM.out j hj).1, keep_cell hb4 (RM.out j hj).2⟩))
              clear hb4 RM I3
              rw [ML.out]
              go_wp2
              go_loopw [14] (fun i wr => ∃ k : Nat, k ≤ c.length ∧ i = .int .i64 k ∧ Below w4.heap.size w4 wr) (fun i _ => c.length - (intOf i).toNat)
              case atStart => exact ⟨0, Nat.zero_le _, rfl, Below.refl _ _⟩
              case round =>
                obtain ⟨k, hk, rfl, hbel⟩ := hrel
                by_cases hlt : k < c.length
                · have hlt' : (k : Int) < (c.length : Int) := by omega
                  obtain ⟨x0, d0⟩ := RM4.out k (by rw [ML.out]; exact hlt)
                  have x1 := keep_cell hbel x0
                  have d1 := keep_cell hbel d0
                  have hbw := HB4.out.trans (hbel.mono HB4.out.size)
                  have c1 := keep_cell hbw (HCC.out k hlt)
                  have hcx := HH.out.holds _ (mem_getD hlt)
                  have MF := MFA.out k hlt
                  have m1 := MF.lo
                  have m2 := MF.hi
                  have m3 := MF.d1
                  have m4 := MF.d2
                  have HBL := Lib.hid hbel
                  have TQ := Lib.hid (fun q => Calls.quiet_of_same ((total_any (.slice (some ⟨b, off, none⟩) c.length cap) c (wr.drewN q) (HV.out.below (below_drewN hbw q)) HH.out).mono fun _ _ h => ⟨h.1, h.2.symm⟩))
                  clear x0 d0 hbel hbw MF
                  generalize tot c = T at *
                  generalize c.getD k 0 = ck at *
                  generalize ml.getD k (0, 0) = r at *
                  obtain ⟨p, d⟩ := r
                  simp only at x1 d1 m1 m2 m3 m4
                  have hla : 0 ≤ max (n - (T - ck)) 0 ∧ max (n - (T - ck)) 0 ≤ 1000 := by omega
                  have hmi : 0 ≤ min ck n ∧ min ck n ≤ 1000 := by omega
                  have b1 : 0 ≤ max (n - (T - ck)) 0 * d ∧ max (n - (T - ck)) 0 * d ≤ 1000 * 5040 := ⟨Int.mul_nonneg (by omega) (by omega), Int.mul_le_mul (by omega) (by omega) (by omega) (by omega)⟩
                  have b2 : 0 ≤ min ck n * d ∧ min ck n * d ≤ 1000 * 5040 := ⟨Int.mul_nonneg (by omega) (by omega), Int.mul_le_mul (by omega) (by omega) (by omega) (by omega)⟩
                  have g0 : decide (p < max (n - (T - ck)) 0 * d) = false := decide_eq_false (by omega)
                  have g1 : decide (min ck n * d < p) = false := decide_eq_false (by omega)
                  go_upto_region 21 with fail
                  refine wp_region_quiet_lit (by kernel_rfl) (by kernel_rfl) ?_
                  repeat (any_goals (first | go_big_quiet_step ((go_at_call 26; with_reducible exact TQ.out _)) | quiet_step (fail)))
                  all_goals (refine wpQuiet_nil ?_; intro _ hw'; obtain ⟨nq, hw''⟩ := hw'; subst hw'')
                  clear TQ
                  have x1 := show (wr.drewN nq).cell? _ = _ from x1
                  have d1 := show (wr.drewN nq).cell? _ = _ from d1
                  have c1 := show (wr.drewN nq).cell? _ = _ from c1
                  have HBQ := Lib.hid (below_drewN HBL.out nq)
                  generalize wr.drewN nq = wq at *
                  go_upto_region 22 with fail
                  refine wp_region_quiet_lit (by kernel_rfl) (by kernel_rfl) ?_
                  repeat (any_goals (first | go_big_quiet_step (fail) | quiet_step (fail)))
                  all_goals (refine wpQuiet_nil ?_; intro _ hw'; obtain ⟨nq, hw''⟩ := hw'; subst hw'')
                  go_wp2
                  go_roundw
                  case rel => exact ⟨k + 1, by omega, by go_num, below_drewN HBQ.out _⟩
                  case measure => simp [intOf]; omega
                · have hkk : ¬ (k : Int) < (c.length : Int) := by omega
                  have HBL := Lib.hid (HB4.out.trans (hbel.mono HB4.out.size))
                  clear hbel
                  go_wp2_with (go_at_call 19; refine (SN.out _).mono ?_; rintro e w' ⟨rfl, hbS⟩)
                  go_ret
                  exact ⟨rfl, HBL.out.trans (hbS.mono HBL.out.size)⟩
        · have ha2 : askE c n = 2 := by
            unfold askE at ha ⊢
            rw [if_pos hcv] at ha ⊢
            split at ha
            · omega
            · rename_i h; rw [if_neg h]
          have ME := Lib.hid (show midE c n = 2 by unfold midE; rw [if_neg ha, ha2])
          have MV := Lib.hid (show midV c n = [] by unfold midV; rw [if_neg (by rw [ME.out]; decide)])
          rw [ME.out, MV.out] at C3
          clear hcv hc
          go_enter Try.func10, Try.ntmps10
          go_wp2_with fail
          refine LG.out.mono ?_
          rintro e w' ⟨rfl, rfl⟩
          rw [L.out]
          go_wp2_with fail
          refine RV.out.mono ?_
          rintro e w' ⟨rfl, rfl⟩
          go_wp2_with fail
          refine (C1.out h42).mono ?_
          rintro e w1 ⟨v1, l1, e1, rfl, hi1, hb1, hq1, _⟩
          obtain ⟨rfl, rfl⟩ := hq1 ha
          rw [ha2]
          obtain ⟨a1, c1, rfl, _, _⟩ := hi1
          have HB1 := Lib.hid hb1
          clear hb1 hq1 ha ha2
          go_wp2_with fail
          refine (C3.out w1 HB1.out).mono ?_
          rintro e w3 ⟨v3, rfl, hi3, hb3⟩
          obtain ⟨a3, c3, rfl, _, _⟩ := hi3
          have HB3 := Lib.hid (HB1.out.trans (hb3.mono HB1.out.size))
          clear hb3
          go_wp2_with (go_at_call 19; refine (SN.out _).mono ?_; rintro e w' ⟨rfl, hbS⟩)
          go_ret
          exact ⟨rfl, HB3.out.trans (hbS.mono HB3.out.size)⟩

end Go.Proofs.Ytaakefjblldccaa
