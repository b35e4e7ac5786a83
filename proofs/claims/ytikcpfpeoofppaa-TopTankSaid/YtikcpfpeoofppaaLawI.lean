/- The law TankFewest: the walk. -/
import Derived.Test.YtikcpfpeoofppaaLawH
import Derived.Test.YtikcpfpeoofppaaLawF
namespace Go.Proofs.Ytikcpfpeoofppaa
open Go.RowKit Go.Shelf




theorem zeros_at {t : List Int} {base : Nat} {e : TypeId} {v : Value} {w : World} (h : w.ownsRow base e 1 v t.length (madeCells (Value.int .i64 0).cells (t.length * 1)).toList) (hl : t.length ≤ 9223372036854775807) : IntsAt w v (zerosL t) := by
  have hzl : (zerosL t).length = t.length := by simp [zerosL]
  rw [made_zeros, ← hzl] at h
  exact own_ints h (by rw [hzl]; exact hl)

theorem can_of {t : List Int} {i n : Int} : (dE t i n = 0 → canV t i n = true ∧ canE t i n = 0) ∧ (dE t i n ≠ 0 → canV t i n = false) := by
  unfold canV canE
  constructor
  · intro h
    rw [h]
    exact ⟨rfl, rfl⟩
  · intro h
    by_cases h5 : dE t i n = 5
    · rw [if_pos h5]
    · rw [if_neg h5]
      exact beq_eq_false_iff_ne.2 h

set_option maxRecDepth 100000 in
set_option maxHeartbeats 8000000 in
theorem TankFewest_walk (v x : Value) (t : List Int) (ds : List Deed) (a b : Int) (w : World) (hv : IntsAt w v t) (hx : DeedsAt w x ds) :
    Calls Try.prog 13 #[v, .agg #[.int .i64 a, .int .i64 b], x] w fun e w' => e = .returned (.bool true) ∧ Below w.heap.size w w' := by
  have V := Lib.hid hv
  have X := Lib.hid hx
  have S := Lib.hid sane_any
  have hB1 := (Below.refl w.heap.size w).alloc (Nat.le_refl _) (.cells #[.int .i64 a, .int .i64 b] 55)
  have hc0 : (w.alloc (.cells #[.int .i64 a, .int .i64 b] 55)).cell? ⟨w.heap.size, 0, none⟩ = some (.int .i64 a) := by simp
  have hc1 : (w.alloc (.cells #[.int .i64 a, .int .i64 b] 55)).cell? ⟨w.heap.size, 1, none⟩ = some (.int .i64 b) := by simp
  have L := Lib.hid (long_any v (.slice none 0 0) t [] _ (hv.below hB1) (ints_nil _))
  have RV := Lib.hid (rValid_any v t _ (hv.below hB1))
  obtain ⟨a0, c0, rfl, hl0, _⟩ := hv
  obtain ⟨a2, c2, rfl, hl2, _⟩ := hx
  cases hlong : (decide (20 < t.length) || decide (20 < ([] : List Int).length)) with
  | true =>
    rw [hlong] at L
    clear hlong hc0 hc1
    go_enter Try.func13, Try.ntmps13
    go_wp2_with (first | (go_at_call 21; refine L.out.mono ?_; rintro e w' ⟨rfl, rfl⟩) | (go_at_call 20; refine (S.out _).mono ?_; rintro e w' ⟨rfl, hbS⟩))
    go_ret
    exact ⟨rfl, hB1.trans (hbS.mono hB1.size)⟩
  | false =>
    rw [hlong] at L
    clear hlong
    by_cases h300 : (300 : Int) < (ds.length : Int)
    · clear hc0 hc1
      go_enter Try.func13, Try.ntmps13
      go_wp2_with (first | (go_at_call 21; refine L.out.mono ?_; rintro e w' ⟨rfl, rfl⟩) | (go_at_call 20; refine (S.out _).mono ?_; rintro e w' ⟨rfl, hbS⟩))
      go_ret
      exact ⟨rfl, hB1.trans (hbS.mono hB1.size)⟩
    · cases htv : tvl t with
      | false =>
        rw [htv] at RV
        clear htv hc0 hc1
        go_enter Try.func13, Try.ntmps13
        go_wp2_with (first | (go_at_call 21; refine L.out.mono ?_; rintro e w' ⟨rfl, rfl⟩) | (go_at_call 39; refine RV.out.mono ?_; rintro e w' ⟨rfl, rfl⟩) | (go_at_call 20; refine (S.out _).mono ?_; rintro e w' ⟨rfl, hbS⟩))
        go_ret
        exact ⟨rfl, hB1.trans (hbS.mono hB1.size)⟩
      | true =>
        have ht := (tvl_iff t).1 htv
        rw [htv] at RV
        have HT := Lib.hid ht
        have hlo := ht.lo
        have hhi := ht.hi
        clear htv ht
        obtain ⟨j0, hj0, hy0, hy1, hy2⟩ := info_parts Try.infoInt
        have T1 := Lib.hid (fun w1 hb => tLeast_any _ t a b w1 (V.out.below (w' := w1) hb))
        go_enter Try.func13, Try.ntmps13
        go_wp2_with (first | (go_at_call 21; refine L.out.mono ?_; rintro e w' ⟨rfl, rfl⟩) | (go_at_call 39; refine RV.out.mono ?_; rintro e w' ⟨rfl, rfl⟩))
        go_region
        all_goals go_wp2_with fail
        refine (T1.out _ ?hbW).mono ?_
        case hbW => first | exact hB1 | exact Below.drew hB1 | exact Below.drew (Below.drew hB1)
        rintro e w1 ⟨rfl, hb1⟩
        have hbA := Below.trans (?hbA : Below w.heap.size w _) (hb1.mono ?hsz)
        case hsz => simp
        case hbA => first | exact hB1 | exact Below.drew hB1 | exact Below.drew (Below.drew hB1)
        have HB1 := Lib.hid hbA
        clear hb1 hbA hB1 hc0 hc1 L RV
        have T2 := Lib.hid (fun w1 hb => tDeeds_any _ t a b w1 (V.out.below (w' := w1) hb))
        have T3 := Lib.hid (fun w1 hb => tCan_any _ t a b w1 (V.out.below (w' := w1) hb))
        have HCO := Lib.hid (can_of (t := t) (i := a) (n := b))
        have HRE := Lib.hid (runE_zeros HT.out ds)
        by_cases hz : dE t a b = 0
        · obtain ⟨-, hi0, hi1, hn0, hn1, hD, hX⟩ := dL_good hz
          have HCV := Lib.hid (HCO.out.1 hz)
          have HLE := Lib.hid (fun qs hq hx => dL_least (qs := qs) hz hq hx)
          have HLL := Lib.hid (reached HT.out hD)
          have HRL := Lib.hid (show runE t (zerosL t) (dL t a b) = 0 by rw [runE_zeros HT.out, hD]; rfl)
          have HRW := Lib.hid (show runV t (zerosL t) (dL t a b) = (dL t a b).foldl (doneL t) (zerosL t) by unfold runV; rw [HRL.out]; rfl)
          have HX := Lib.hid hX
          clear hX hD HCO
          rw [hz] at T2
          rw [HCV.out.1, HCV.out.2] at T3
          rw [hz]
          clear HCV
          generalize dL t a b = dl at *
          obtain ⟨i, rfl⟩ := Int.eq_ofNat_of_zero_le hi0
          rw [Int.toNat_natCast] at HX
          have hi : i < t.length := by omega
          go_wp2_with fail
          refine (T2.out w1 HB1.out).mono ?_
          rintro e w2 ⟨ov, rfl, hov, hb2⟩
          have O := Lib.hid hov
          obtain ⟨oa, oc, rfl, hol, _⟩ := hov
          have HB2 := Lib.hid (HB1.out.trans (hb2.mono HB1.out.size))
          clear hb2 T2
          go_wp2_with fail
          refine (T3.out w2 HB2.out).mono ?_
          rintro e w3 ⟨rfl, hb3⟩
          have HB3 := Lib.hid (HB2.out.trans (hb3.mono HB2.out.size))
          have O3 := Lib.hid (O.out.below hb3)
          clear hb3 T3 O
          go_wp2_with (at_make; refine wpList_make_full _ rfl _ _ 29 rfl w3.heap.size 3 j0 (.int .i64 0) 1 Try.underlying29 hj0 hy0 hy1 .i64 .i64 _ _ t.length rfl rfl rfl rfl (by rw [hy2]; omega) (by unfold maxLen; omega) (Nat.le_refl _) ?_; intro w4 hown4 hgrow4)
          have hstep := (Below.refl w3.heap.size w3).grown hgrow4 (Nat.le_refl _) (fun k e => by cases e)
          have HB4 := Lib.hid (HB3.out.trans (hstep.mono HB3.out.size))
          have HZ4 := Lib.hid (zeros_at (hown4) hl0)
          clear hown4 hgrow4
          have O4 := Lib.hid (O3.out.below hstep)
          clear hstep O3
          have A := Lib.hid (tAfter_any _ _ _ t (zerosL t) ds w4 (V.out.below HB4.out) HZ4.out (X.out.below HB4.out))
          unfold GivesA at A
          cases hD : areD t.length ds with
          | false =>
            rw [HRE.out, hD] at A
            have HRV : Hid (runV t (zerosL t) ds = []) := Lib.hid (by unfold runV; rw [HRE.out, hD]; rfl)
            rw [HRV.out] at A
            simp only [Bool.false_eq_true, if_false] at A
            clear hD
            refine A.out.mono ?_
            rintro e w5 ⟨ov5, rfl, hov5, hb5⟩
            obtain ⟨oa5, oc5, rfl, _⟩ := hov5
            have HB5 := Lib.hid (HB4.out.trans (hb5.mono HB4.out.size))
            have O5 := Lib.hid (O4.out.below hb5)
            clear hb5 O4 A
            go_wp2_with (at_make; refine wpList_make_full _ rfl _ _ 29 rfl w5.heap.size 3 j0 (.int .i64 0) 1 Try.underlying29 hj0 hy0 hy1 .i64 .i64 _ _ t.length rfl rfl rfl rfl (by rw [hy2]; omega) (by unfold maxLen; omega) (Nat.le_refl _) ?_; intro w6 hown6 hgrow6)
            have hstep := (Below.refl w5.heap.size w5).grown hgrow6 (Nat.le_refl _) (fun k e => by cases e)
            have HB6 := Lib.hid (HB5.out.trans (hstep.mono HB5.out.size))
            have HZ6 := Lib.hid (zeros_at (hown6) hl0)
            clear hown6 hgrow6
            have A2 := Lib.hid (tAfter_any _ _ _ t (zerosL t) dl w6 (V.out.below HB6.out) HZ6.out (O5.out.below hstep))
            clear hstep O5
            unfold GivesA at A2
            rw [HRL.out, HRW.out] at A2
            clear HRL HRW
            generalize dl.foldl (doneL t) (zerosL t) = L2 at A2 HX HLL
            have hlen2 : L2.length = t.length := HLL.out.1.1
            have hi2 : (i : Int) < (L2.length : Int) := by omega
            refine A2.out.mono ?_
            rintro e w7 ⟨ov7, rfl, hov7, hb7⟩
            obtain ⟨ob7, oo7, oc7, rfl, hoc7⟩ := ints_cell hov7 (by omega)
            have x7 := hoc7 i (by omega)
            rw [HX.out] at x7
            have HB7 := Lib.hid (HB6.out.trans (hb7.mono HB6.out.size))
            clear hb7 hov7 hoc7 HLL HX A2
            go_wp2_with (first | (go_at_call 20; refine (S.out _).mono ?_; rintro e w' ⟨rfl, hbS⟩))
            go_ret
            exact ⟨rfl, HB7.out.trans (hbS.mono HB7.out.size)⟩
          | true =>
            have HRV := Lib.hid (show runV t (zerosL t) ds = ds.foldl (doneL t) (zerosL t) by unfold runV; rw [HRE.out, hD]; rfl)
            have HR := Lib.hid (reached HT.out hD)
            have HLS := Lib.hid (HLE.out ds (areD_isD hD))
            rw [HRE.out, hD, HRV.out] at A
            simp only [if_true] at A
            clear hD HRV HRE HLE
            generalize ds.foldl (doneL t) (zerosL t) = LL at A HR HLS
            have hlen : LL.length = t.length := HR.out.1.1
            have hiL : (i : Int) < (LL.length : Int) := by omega
            refine A.out.mono ?_
            rintro e w5 ⟨ov5, rfl, hov5, hb5⟩
            obtain ⟨ob, oo, oc, rfl, hoc⟩ := ints_cell hov5 (by omega)
            have x1 := hoc i (by omega)
            rw [Int.toNat_natCast] at HLS
            clear hov5 hoc HR
            by_cases hp : LL.getD i 0 = b
            · have hle : ¬ ((ds.length : Int) < (dl.length : Int)) := by have := HLS.out hp; omega
              rw [hp] at x1
              clear HLS hp
              have HB5 := Lib.hid (HB4.out.trans (hb5.mono HB4.out.size))
              have O5 := Lib.hid (O4.out.below hb5)
              clear hb5 O4 A
              go_wp2_with (at_make; refine wpList_make_full _ rfl _ _ 29 rfl w5.heap.size 3 j0 (.int .i64 0) 1 Try.underlying29 hj0 hy0 hy1 .i64 .i64 _ _ t.length rfl rfl rfl rfl (by rw [hy2]; omega) (by unfold maxLen; omega) (Nat.le_refl _) ?_; intro w6 hown6 hgrow6)
              have hstep := (Below.refl w5.heap.size w5).grown hgrow6 (Nat.le_refl _) (fun k e => by cases e)
              have HB6 := Lib.hid (HB5.out.trans (hstep.mono HB5.out.size))
              have HZ6 := Lib.hid (zeros_at (hown6) hl0)
              clear hown6 hgrow6
              have A2 := Lib.hid (tAfter_any _ _ _ t (zerosL t) dl w6 (V.out.below HB6.out) HZ6.out (O5.out.below hstep))
              clear hstep O5
              unfold GivesA at A2
              rw [HRL.out, HRW.out] at A2
              clear HRL HRW
              generalize dl.foldl (doneL t) (zerosL t) = L2 at A2 HX HLL
              have hlen2 : L2.length = t.length := HLL.out.1.1
              have hi2 : (i : Int) < (L2.length : Int) := by omega
              refine A2.out.mono ?_
              rintro e w7 ⟨ov7, rfl, hov7, hb7⟩
              obtain ⟨ob7, oo7, oc7, rfl, hoc7⟩ := ints_cell hov7 (by omega)
              have x7 := hoc7 i (by omega)
              rw [HX.out] at x7
              have HB7 := Lib.hid (HB6.out.trans (hb7.mono HB6.out.size))
              clear hb7 hov7 hoc7 HLL HX A2
              go_wp2_with (first | (go_at_call 20; refine (S.out _).mono ?_; rintro e w' ⟨rfl, hbS⟩))
              go_ret
              exact ⟨rfl, HB7.out.trans (hbS.mono HB7.out.size)⟩
            · have hpf := beq_eq_false_iff_ne.2 hp
              clear HLS hp
              generalize LL.getD i 0 = p at *
              have HB5 := Lib.hid (HB4.out.trans (hb5.mono HB4.out.size))
              have O5 := Lib.hid (O4.out.below hb5)
              clear hb5 O4 A
              go_wp2_with (at_make; refine wpList_make_full _ rfl _ _ 29 rfl w5.heap.size 3 j0 (.int .i64 0) 1 Try.underlying29 hj0 hy0 hy1 .i64 .i64 _ _ t.length rfl rfl rfl rfl (by rw [hy2]; omega) (by unfold maxLen; omega) (Nat.le_refl _) ?_; intro w6 hown6 hgrow6)
              have hstep := (Below.refl w5.heap.size w5).grown hgrow6 (Nat.le_refl _) (fun k e => by cases e)
              have HB6 := Lib.hid (HB5.out.trans (hstep.mono HB5.out.size))
              have HZ6 := Lib.hid (zeros_at (hown6) hl0)
              clear hown6 hgrow6
              have A2 := Lib.hid (tAfter_any _ _ _ t (zerosL t) dl w6 (V.out.below HB6.out) HZ6.out (O5.out.below hstep))
              clear hstep O5
              unfold GivesA at A2
              rw [HRL.out, HRW.out] at A2
              clear HRL HRW
              generalize dl.foldl (doneL t) (zerosL t) = L2 at A2 HX HLL
              have hlen2 : L2.length = t.length := HLL.out.1.1
              have hi2 : (i : Int) < (L2.length : Int) := by omega
              refine A2.out.mono ?_
              rintro e w7 ⟨ov7, rfl, hov7, hb7⟩
              obtain ⟨ob7, oo7, oc7, rfl, hoc7⟩ := ints_cell hov7 (by omega)
              have x7 := hoc7 i (by omega)
              rw [HX.out] at x7
              have HB7 := Lib.hid (HB6.out.trans (hb7.mono HB6.out.size))
              clear hb7 hov7 hoc7 HLL HX A2
              go_wp2_with (first | (go_at_call 20; refine (S.out _).mono ?_; rintro e w' ⟨rfl, hbS⟩))
              go_ret
              exact ⟨rfl, HB7.out.trans (hbS.mono HB7.out.size)⟩
        · have HCV := Lib.hid (HCO.out.2 hz)
          have HNO := Lib.hid (fun qs hi hq => dE_none (qs := qs) HT.out hi hz hq)
          have hnil := dL_nil hz
          have hz0 := beq_eq_false_iff_ne.2 hz
          have hz1 : (dE t a b != 0) = true := bne_iff_ne.2 hz
          clear HCO
          rw [HCV.out] at T3
          rw [hnil] at T2
          rw [hnil, show (([] : List Deed).length : Int) = 0 from rfl]
          clear HCV hnil
          generalize canE t a b = ce at *
          generalize dE t a b = de at *
          go_wp2_with fail
          refine (T2.out w1 HB1.out).mono ?_
          rintro e w2 ⟨ov, rfl, hov, hb2⟩
          obtain ⟨oa, oc, rfl, hol, _⟩ := hov
          have HB2 := Lib.hid (HB1.out.trans (hb2.mono HB1.out.size))
          clear hb2 T2
          go_wp2_with fail
          refine (T3.out w2 HB2.out).mono ?_
          rintro e w3 ⟨rfl, hb3⟩
          have HB3 := Lib.hid (HB2.out.trans (hb3.mono HB2.out.size))
          clear hb3 T3
          by_cases hce : ce = 0
          · subst hce
            go_wp2_with (at_make; refine wpList_make_full _ rfl _ _ 29 rfl w3.heap.size 3 j0 (.int .i64 0) 1 Try.underlying29 hj0 hy0 hy1 .i64 .i64 _ _ t.length rfl rfl rfl rfl (by rw [hy2]; omega) (by unfold maxLen; omega) (Nat.le_refl _) ?_; intro w4 hown4 hgrow4)
            have hstep := (Below.refl w3.heap.size w3).grown hgrow4 (Nat.le_refl _) (fun k e => by cases e)
            have HB4 := Lib.hid (HB3.out.trans (hstep.mono HB3.out.size))
            have HZ4 := Lib.hid (zeros_at (hown4) hl0)
            clear hown4 hgrow4
            clear hstep
            have A := Lib.hid (tAfter_any _ _ _ t (zerosL t) ds w4 (V.out.below HB4.out) HZ4.out (X.out.below HB4.out))
            unfold GivesA at A
            cases hD : areD t.length ds with
            | false =>
              rw [HRE.out, hD] at A
              have HRV : Hid (runV t (zerosL t) ds = []) := Lib.hid (by unfold runV; rw [HRE.out, hD]; rfl)
              rw [HRV.out] at A
              simp only [Bool.false_eq_true, if_false] at A
              clear hD
              refine A.out.mono ?_
              rintro e w5 ⟨ov5, rfl, hov5, hb5⟩
              obtain ⟨oa5, oc5, rfl, _⟩ := hov5
              have HB5 := Lib.hid (HB4.out.trans (hb5.mono HB4.out.size))
              clear hb5
              go_wp2_with (first | (go_at_call 20; refine (S.out _).mono ?_; rintro e w' ⟨rfl, hbS⟩))
              go_ret
              exact ⟨rfl, HB5.out.trans (hbS.mono HB5.out.size)⟩
            | true =>
              have HRV := Lib.hid (show runV t (zerosL t) ds = ds.foldl (doneL t) (zerosL t) by unfold runV; rw [HRE.out, hD]; rfl)
              have HR := Lib.hid (reached HT.out hD)
              have HLS := Lib.hid (fun hi => HNO.out ds hi (areD_isD hD))
              rw [HRE.out, hD, HRV.out] at A
              simp only [if_true] at A
              clear hD HRV HRE HNO
              generalize ds.foldl (doneL t) (zerosL t) = LL at A HR HLS
              have hlen : LL.length = t.length := HR.out.1.1
              refine A.out.mono ?_
              rintro e w5 ⟨ov5, rfl, hov5, hb5⟩
              have HB5 := Lib.hid (HB4.out.trans (hb5.mono HB4.out.size))
              clear hb5
              obtain ⟨ob, oo, oc, rfl, hoc⟩ := ints_cell hov5 (by omega)
              by_cases ha0 : (0 : Int) ≤ a
              · by_cases ha1 : a < (t.length : Int)
                · obtain ⟨i, rfl⟩ := Int.eq_ofNat_of_zero_le ha0
                  have hiL : (i : Int) < (LL.length : Int) := by omega
                  have x1 := hoc i (by omega)
                  have hp := HLS.out ⟨ha0, ha1⟩
                  rw [Int.toNat_natCast] at hp
                  have hpf := beq_eq_false_iff_ne.2 hp
                  clear HLS hp hov5 hoc HR
                  generalize LL.getD i 0 = p at *
                  go_wp2_with (first | (go_at_call 20; refine (S.out _).mono ?_; rintro e w' ⟨rfl, hbS⟩))
                  go_ret
                  exact ⟨rfl, HB5.out.trans (hbS.mono HB5.out.size)⟩
                · clear HLS hov5 hoc HR
                  go_wp2_with (first | (go_at_call 20; refine (S.out _).mono ?_; rintro e w' ⟨rfl, hbS⟩))
                  go_ret
                  exact ⟨rfl, HB5.out.trans (hbS.mono HB5.out.size)⟩
              · clear HLS hov5 hoc HR
                go_wp2_with (first | (go_at_call 20; refine (S.out _).mono ?_; rintro e w' ⟨rfl, hbS⟩))
                go_ret
                exact ⟨rfl, HB5.out.trans (hbS.mono HB5.out.size)⟩
          · have hce0 := beq_eq_false_iff_ne.2 hce
            go_wp2_with (at_make; refine wpList_make_full _ rfl _ _ 29 rfl w3.heap.size 3 j0 (.int .i64 0) 1 Try.underlying29 hj0 hy0 hy1 .i64 .i64 _ _ t.length rfl rfl rfl rfl (by rw [hy2]; omega) (by unfold maxLen; omega) (Nat.le_refl _) ?_; intro w4 hown4 hgrow4)
            have hstep := (Below.refl w3.heap.size w3).grown hgrow4 (Nat.le_refl _) (fun k e => by cases e)
            have HB4 := Lib.hid (HB3.out.trans (hstep.mono HB3.out.size))
            have HZ4 := Lib.hid (zeros_at (hown4) hl0)
            clear hown4 hgrow4
            clear hstep
            have A := Lib.hid (tAfter_any _ _ _ t (zerosL t) ds w4 (V.out.below HB4.out) HZ4.out (X.out.below HB4.out))
            unfold GivesA at A
            cases hD : areD t.length ds with
            | false =>
              rw [HRE.out, hD] at A
              have HRV : Hid (runV t (zerosL t) ds = []) := Lib.hid (by unfold runV; rw [HRE.out, hD]; rfl)
              rw [HRV.out] at A
              simp only [Bool.false_eq_true, if_false] at A
              clear hD
              refine A.out.mono ?_
              rintro e w5 ⟨ov5, rfl, hov5, hb5⟩
              obtain ⟨oa5, oc5, rfl, _⟩ := hov5
              have HB5 := Lib.hid (HB4.out.trans (hb5.mono HB4.out.size))
              clear hb5
              go_wp2_with (first | (go_at_call 20; refine (S.out _).mono ?_; rintro e w' ⟨rfl, hbS⟩))
              go_ret
              exact ⟨rfl, HB5.out.trans (hbS.mono HB5.out.size)⟩
            | true =>
              have HRV := Lib.hid (show runV t (zerosL t) ds = ds.foldl (doneL t) (zerosL t) by unfold runV; rw [HRE.out, hD]; rfl)
              have HR := Lib.hid (reached HT.out hD)
              have HLS := Lib.hid (fun hi => HNO.out ds hi (areD_isD hD))
              rw [HRE.out, hD, HRV.out] at A
              simp only [if_true] at A
              clear hD HRV HRE HNO
              generalize ds.foldl (doneL t) (zerosL t) = LL at A HR HLS
              have hlen : LL.length = t.length := HR.out.1.1
              refine A.out.mono ?_
              rintro e w5 ⟨ov5, rfl, hov5, hb5⟩
              have HB5 := Lib.hid (HB4.out.trans (hb5.mono HB4.out.size))
              clear hb5
              obtain ⟨ob, oo, oc, rfl, hoc⟩ := ints_cell hov5 (by omega)
              by_cases ha0 : (0 : Int) ≤ a
              · by_cases ha1 : a < (t.length : Int)
                · obtain ⟨i, rfl⟩ := Int.eq_ofNat_of_zero_le ha0
                  have hiL : (i : Int) < (LL.length : Int) := by omega
                  have x1 := hoc i (by omega)
                  have hp := HLS.out ⟨ha0, ha1⟩
                  rw [Int.toNat_natCast] at hp
                  have hpf := beq_eq_false_iff_ne.2 hp
                  clear HLS hp hov5 hoc HR
                  generalize LL.getD i 0 = p at *
                  go_wp2_with (first | (go_at_call 20; refine (S.out _).mono ?_; rintro e w' ⟨rfl, hbS⟩))
                  go_ret
                  exact ⟨rfl, HB5.out.trans (hbS.mono HB5.out.size)⟩
                · clear HLS hov5 hoc HR
                  go_wp2_with (first | (go_at_call 20; refine (S.out _).mono ?_; rintro e w' ⟨rfl, hbS⟩))
                  go_ret
                  exact ⟨rfl, HB5.out.trans (hbS.mono HB5.out.size)⟩
              · clear HLS hov5 hoc HR
                go_wp2_with (first | (go_at_call 20; refine (S.out _).mono ?_; rintro e w' ⟨rfl, hbS⟩))
                go_ret
                exact ⟨rfl, HB5.out.trans (hbS.mono HB5.out.size)⟩

end Go.Proofs.Ytikcpfpeoofppaa
