/- The law TankDivides: the walk. -/
import Derived.Test.YtikcpfpeoofppaaLawE
namespace Go.Proofs.Ytikcpfpeoofppaa
open Go.RowKit Go.Shelf

theorem made_zeros (t : List Int) : (madeCells (Value.int .i64 0).cells (t.length * 1)).toList = (zerosL t).map (Value.int .i64) := by
  unfold madeCells zerosL
  apply List.ext_getElem
  · simp
  · intro i h1 h2
    simp [Value.cells, Nat.mod_one]


set_option maxRecDepth 100000 in
set_option maxHeartbeats 8000000 in
theorem TankDivides_walk (v x : Value) (t : List Int) (ds : List Deed) (w : World) (hv : IntsAt w v t) (hx : DeedsAt w x ds) :
    Calls Try.prog 14 #[v, x] w fun e w' => e = .returned (.bool true) ∧ Below w.heap.size w w' := by
  have L := Lib.hid (long_any v (.slice none 0 0) t [] w hv (ints_nil w))
  have V := Lib.hid hv
  have X := Lib.hid hx
  have S := Lib.hid sane_any
  have RV := Lib.hid (rValid_any v t w hv)
  obtain ⟨a0, c0, rfl, hl0, _⟩ := hv
  obtain ⟨a2, c2, rfl, hl2, _⟩ := hx
  cases hlong : (decide (20 < t.length) || decide (20 < ([] : List Int).length)) with
  | true =>
    rw [hlong] at L
    clear hlong
    go_enter Try.func14, Try.ntmps14
    go_wp2_with (first | (go_at_call 21; refine L.out.mono ?_; rintro e w' ⟨rfl, rfl⟩) | (go_at_call 20; refine (S.out _).mono ?_; rintro e w' ⟨rfl, hbS⟩))
    go_ret
    exact ⟨rfl, hbS⟩
  | false =>
    rw [hlong] at L
    clear hlong
    by_cases h300 : (300 : Int) < (ds.length : Int)
    · go_enter Try.func14, Try.ntmps14
      go_wp2_with (first | (go_at_call 21; refine L.out.mono ?_; rintro e w' ⟨rfl, rfl⟩) | (go_at_call 20; refine (S.out _).mono ?_; rintro e w' ⟨rfl, hbS⟩))
      go_ret
      exact ⟨rfl, hbS⟩
    · cases htv : tvl t with
      | false =>
        rw [htv] at RV
        clear htv
        go_enter Try.func14, Try.ntmps14
        go_wp2_with (first | (go_at_call 21; refine L.out.mono ?_; rintro e w' ⟨rfl, rfl⟩) | (go_at_call 39; refine RV.out.mono ?_; rintro e w' ⟨rfl, rfl⟩) | (go_at_call 20; refine (S.out _).mono ?_; rintro e w' ⟨rfl, hbS⟩))
        go_ret
        exact ⟨rfl, hbS⟩
      | true =>
        have ht := (tvl_iff t).1 htv
        have HT := Lib.hid ht
        have hlo := ht.lo
        have hhi := ht.hi
        have hg := ht.gcl_pos
        have M := Lib.hid (tMeasure_any _ t w V.out)
        have hmv : mV t = (gcl t : Int) := by unfold mV; rw [htv, if_pos rfl]
        have hme : mE t = 0 := by unfold mE; rw [htv, if_pos rfl]
        rw [hmv, hme] at M
        rw [htv] at RV
        clear htv ht hmv hme
        obtain ⟨j0, hj0, hy0, hy1, hy2⟩ := info_parts Try.infoInt
        have HRE := Lib.hid (runE_zeros HT.out ds)
        have HG := Lib.hid (rfl : gcl t = gcl t)
        generalize hgg : gcl t = gg at M hg
        have HGG := Lib.hid hgg
        clear hgg HG
        have hg1 : ¬ ((gg : Int) < 1) := by omega
        have hg0 : ¬ ((gg : Int) = 0) := by omega
        go_enter Try.func14, Try.ntmps14
        go_wp2_with (first | (go_at_call 21; refine L.out.mono ?_; rintro e w' ⟨rfl, rfl⟩) | (go_at_call 39; refine RV.out.mono ?_; rintro e w' ⟨rfl, rfl⟩))
        refine M.out.mono ?_
        rintro e w1 ⟨rfl, hb1⟩
        have HB1 := Lib.hid hb1
        clear hb1
        go_wp2_with (at_make; refine wpList_make_full _ rfl _ _ 29 rfl w1.heap.size 3 j0 (.int .i64 0) 1 Try.underlying29 hj0 hy0 hy1 .i64 .i64 _ _ t.length rfl rfl rfl rfl (by rw [hy2]; omega) (by unfold maxLen; omega) (Nat.le_refl _) ?_; intro w2 hown2 hgrow2)
        have hb2 : Below w1.heap.size w1 w2 := (Below.refl _ _).grown hgrow2 (Nat.le_refl _) (fun k e => by cases e)
        have hB2 : Below w.heap.size w w2 := HB1.out.trans (hb2.mono HB1.out.size)
        have hz : IntsAt w2 (.slice (some ⟨w1.heap.size, 0, none⟩) t.length t.length) (zerosL t) := by
          have hzl : (zerosL t).length = t.length := by simp [zerosL]
          rw [made_zeros] at hown2
          rw [← hzl] at hown2 ⊢
          exact own_ints hown2 (by rw [hzl]; exact hl0)
        have A := Lib.hid (tAfter_any _ _ _ t (zerosL t) ds w2 (V.out.below hB2) hz (X.out.below hB2))
        have HB2 := Lib.hid hB2
        unfold GivesA at A
        clear hown2 hgrow2 hb2 hB2 hz M RV L
        cases hD : areD t.length ds with
        | false =>
          rw [HRE.out, hD] at A
          have HRV : Hid (runV t (zerosL t) ds = []) := Lib.hid (by unfold runV; rw [HRE.out, hD]; rfl)
          rw [HRV.out] at A
          simp only [Bool.false_eq_true, if_false] at A
          clear hD
          refine A.out.mono ?_
          rintro e w3 ⟨ov, rfl, hov, hb3⟩
          obtain ⟨oa, ocap, rfl, _⟩ := hov
          have HB3 := Lib.hid (HB2.out.trans (hb3.mono HB2.out.size))
          clear hb3
          go_wp2_with (first | (go_at_call 20; refine (S.out _).mono ?_; rintro e w' ⟨rfl, hbS⟩))
          go_ret
          exact ⟨rfl, HB3.out.trans (hbS.mono HB3.out.size)⟩
        | true =>
          have HR := Lib.hid (reached HT.out hD)
          have HRV : Hid (runV t (zerosL t) ds = ds.foldl (doneL t) (zerosL t)) := Lib.hid (by unfold runV; rw [HRE.out, hD]; rfl)
          have HCAN := Lib.hid (fun k hk => can_reached (k := k) HT.out hD hk)
          have HBACK := Lib.hid (back_reached HT.out hD)
          rw [HRE.out, hD, HRV.out] at A
          simp only [if_true] at A
          clear hD
          generalize hLL : ds.foldl (doneL t) (zerosL t) = LL at A HR HCAN HBACK
          clear hLL HRV HRE
          refine A.out.mono ?_
          rintro e w3 ⟨ov, rfl, hov, hb3⟩
          have HB3 := Lib.hid (HB2.out.trans (hb3.mono HB2.out.size))
          have O := Lib.hid hov
          have hlen : LL.length = t.length := HR.out.1.1
          have AL := Lib.hid (rAreLevels_any _ ov t LL w3 (V.out.below HB3.out) hov)
          have hlB : levB t LL = true := (levB_iff t LL).2 HR.out.1
          rw [hlB] at AL
          obtain ⟨ob, oo, oc, rfl, hoc⟩ := ints_cell hov (by omega)
          obtain ⟨tb, to, tc, he, htc⟩ := ints_cell (V.out.below HB3.out) (by omega)
          simp only [Value.slice.injEq] at he
          obtain ⟨rfl, -, rfl⟩ := he
          have HOC := Lib.hid hoc
          have HLEN := Lib.hid hlen
          clear hlen
          have HTC := Lib.hid htc
          clear hov hb3 A hlB hoc htc
          go_wp2_with (first | (go_at_call 46; refine AL.out.mono ?_; rintro e w4 ⟨rfl, hb4⟩))
          have HB4 := Lib.hid hb4
          clear hb4 AL
          go_loopw [9, 10] (fun en i wr => ∃ k : Nat, k ≤ t.length ∧ i = .int .i64 k ∧ en = .bool (endK t LL k) ∧ Below w3.heap.size w3 wr) (fun _ i _ => t.length - (intOf i).toNat)
          case atStart => exact ⟨0, Nat.zero_le _, rfl, rfl, HB4.out⟩
          case round =>
            obtain ⟨k, hk, rfl, rfl, hbel⟩ := hrel
            by_cases hlt : k < t.length
            · have x1 := keep_cell hbel (HOC.out k (by have := HLEN.out; omega))
              have x2 := keep_cell hbel (HTC.out k hlt)
              have hbw : Below w.heap.size w wr := HB3.out.trans (hbel.mono HB3.out.size)
              have C := Lib.hid (tCan_any _ t k (LL.getD k 0) wr (V.out.below hbw))
              rw [(HCAN.out k hlt).1, (HCAN.out k hlt).2] at C
              have m1 : (LL.getD k 0).tmod (gg : Int) = 0 := by
                have h1 := HR.out.2.1 k
                rw [HGG.out] at h1
                rw [Int.tmod_eq_emod_of_nonneg (HR.out.1.2 k hlt).1]
                exact h1
              have m2 : (t.getD k 0).tmod (gg : Int) = 0 := by
                have h1 := DivL.tanks HT.out k
                rw [HGG.out] at h1
                rw [Int.tmod_eq_emod_of_nonneg (by have := HT.out.holds _ (mem_getD hlt); omega)]
                exact h1
              have ES := Lib.hid (endK_succ t LL k)
              generalize LL.getD k 0 = p at *
              generalize t.getD k 0 = q at *
              have hk1 : (k : Int) < (t.length : Int) := by omega
              have hk2 : (k : Int) < (LL.length : Int) := by have := HLEN.out; omega
              cases hen : endK t LL k with
              | true =>
                rw [hen] at ES
                clear hen
                have RR := Lib.hid (show endK t LL (k + 1) = true by rw [ES.out]; simp [Bool.true_or])
                clear ES
                go_wp2_with (first | (go_at_call 28; refine C.out.mono ?_; rintro e w5 ⟨rfl, hb5⟩; have x3 := keep_cell hb5 x1; have x4 := keep_cell hb5 x2))
                have HB5 := Lib.hid (hbel.trans (hb5.mono hbel.size))
                refine wp_region_quiet_lit (by kernel_rfl) (by kernel_rfl) ?_
                repeat (any_goals (first | go_big_quiet_step (fail) | quiet_step (fail)))
                all_goals (refine wpQuiet_nil ?_; intro _ hw'; obtain ⟨nq, hw''⟩ := hw'; subst hw'')
                all_goals go_wp2
                go_roundw
                case rel => exact ⟨k + 1, by omega, by go_num, by rw [RR.out], below_drewN HB5.out _⟩
                case measure => simp [intOf]; omega
              | false =>
                rw [hen] at ES
                clear hen
                by_cases hp : p = 0
                · subst hp
                  have RR := Lib.hid (show endK t LL (k + 1) = true by rw [ES.out]; simp [Bool.false_or])
                  clear ES
                  go_wp2_with (first | (go_at_call 28; refine C.out.mono ?_; rintro e w5 ⟨rfl, hb5⟩; have x3 := keep_cell hb5 x1; have x4 := keep_cell hb5 x2))
                  have HB5 := Lib.hid (hbel.trans (hb5.mono hbel.size))
                  refine wp_region_quiet_lit (by kernel_rfl) (by kernel_rfl) ?_
                  repeat (any_goals (first | go_big_quiet_step (fail) | quiet_step (fail)))
                  all_goals (refine wpQuiet_nil ?_; intro _ hw'; obtain ⟨nq, hw''⟩ := hw'; subst hw'')
                  all_goals go_wp2
                  go_roundw
                  case rel => exact ⟨k + 1, by omega, by go_num, by rw [RR.out], below_drewN HB5.out _⟩
                  case measure => simp [intOf]; omega
                · have hp0 := beq_eq_false_iff_ne.2 hp
                  by_cases hpq : p = q
                  · subst hpq
                    clear hp
                    have RR := Lib.hid (show endK t LL (k + 1) = true by rw [ES.out]; simp [hp0])
                    clear ES
                    go_wp2_with (first | (go_at_call 28; refine C.out.mono ?_; rintro e w5 ⟨rfl, hb5⟩; have x3 := keep_cell hb5 x1; have x4 := keep_cell hb5 x2))
                    have HB5 := Lib.hid (hbel.trans (hb5.mono hbel.size))
                    refine wp_region_quiet_lit (by kernel_rfl) (by kernel_rfl) ?_
                    repeat (any_goals (first | go_big_quiet_step (fail) | quiet_step (fail)))
                    all_goals (refine wpQuiet_nil ?_; intro _ hw'; obtain ⟨nq, hw''⟩ := hw'; subst hw'')
                    all_goals go_wp2
                    go_roundw
                    case rel => exact ⟨k + 1, by omega, by go_num, by rw [RR.out], below_drewN HB5.out _⟩
                    case measure => simp [intOf]; omega
                  · have hq0 := beq_eq_false_iff_ne.2 hpq
                    clear hp hpq
                    have RR := Lib.hid (show endK t LL (k + 1) = false by rw [ES.out]; simp [hp0, hq0])
                    clear ES
                    go_wp2_with (first | (go_at_call 28; refine C.out.mono ?_; rintro e w5 ⟨rfl, hb5⟩; have x3 := keep_cell hb5 x1; have x4 := keep_cell hb5 x2))
                    have HB5 := Lib.hid (hbel.trans (hb5.mono hbel.size))
                    refine wp_region_quiet_lit (by kernel_rfl) (by kernel_rfl) ?_
                    repeat (any_goals (first | go_big_quiet_step (fail) | quiet_step (fail)))
                    all_goals (refine wpQuiet_nil ?_; intro _ hw'; obtain ⟨nq, hw''⟩ := hw'; subst hw'')
                    all_goals go_wp2
                    go_roundw
                    case rel => exact ⟨k + 1, by omega, by go_num, by rw [RR.out], below_drewN HB5.out _⟩
                    case measure => simp [intOf]; omega
            · obtain rfl : k = t.length := by omega
              have HEND := Lib.hid (endK_end HR.out.2.2)
              rw [HEND.out]
              have hbw : Below w.heap.size w wr := HB3.out.trans (hbel.mono HB3.out.size)
              have HBW := Lib.hid hbw
              have BK := Lib.hid (tBack_any _ _ t LL wr (V.out.below hbw) (O.out.below hbel))
              rw [HBACK.out.1, HBACK.out.2] at BK
              clear hbw hbel
              go_wp2_with (first | (go_at_call 30; refine BK.out.mono ?_; rintro e w5 ⟨rfl, hb5⟩) | (go_at_call 20; refine (S.out _).mono ?_; rintro e w' ⟨rfl, hbS⟩))
              go_ret
              exact ⟨rfl, (HBW.out.trans (hb5.mono HBW.out.size)).trans (hbS.mono (HBW.out.trans (hb5.mono HBW.out.size)).size)⟩

end Go.Proofs.Ytikcpfpeoofppaa
