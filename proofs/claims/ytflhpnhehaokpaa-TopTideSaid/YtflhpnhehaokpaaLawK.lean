/- The walk of the law TideSums. -/
import Derived.Test.YtflhpnhehaokpaaLawH
import Derived.Test.YtflhpnhehaokpaaLawD
namespace Go.Proofs.Ytflhpnhehaokpaa
open Go.RowKit

theorem tShifted_v (v : Value) (t : List (List Int)) (b : Int) (w : World) (hv : RowsAt w v t) (hy : vld t = true) (h1 : -1000000 ≤ b) (h2 : b ≤ 1000000) :
    Calls Try.prog 38 #[v, .int .i64 b] w (GivesRE (shiftT b t) 0 w) := by
  have := tShifted_any v t b w hv
  rwa [hourB_of h1 h2, qr_yes hy, qe_yes hy] at this

theorem vld_append {t u : List (List Int)} (ht : Vld t) (hu : Vld u) (hl : t.length + u.length ≤ 4) : Vld (t ++ u) :=
  ⟨by have := ht.lo; simp; omega, by simpa using hl, fun l h => by
    rcases List.mem_append.1 h with h | h
    · exact ht.wave l h
    · exact hu.wave l h⟩

theorem tSum_yes (v x : Value) (t u : List (List Int)) (w : World) (hv : RowsAt w v t) (hx : RowsAt w x u) (h : vld t = true) (k : vld u = true) (hl : t.length + u.length ≤ 4) :
    Calls Try.prog 39 #[v, x] w (GivesRE (t ++ u) 0 w) := by
  have := tSum_any v x t u w hv hx
  rwa [(sum_yes h k hl).1, (sum_yes h k hl).2] at this

theorem tSum_big (v x : Value) (t u : List (List Int)) (w : World) (hv : RowsAt w v t) (hx : RowsAt w x u) (h : vld t = true) (k : vld u = true) (hl : ¬ t.length + u.length ≤ 4) :
    Calls Try.prog 39 #[v, x] w (GivesRE [] 4 w) := by
  have := tSum_any v x t u w hv hx
  rwa [(sum_big h k hl).1, (sum_big h k hl).2] at this

theorem shift_same {t : List (List Int)} (ht : Vld t) : onceL t = onceL (shiftT (bt (spd t) (rnd t)) t) := by
  have e : spd (shiftT (bt (spd t) (rnd t)) t) = spd t := funext fun h => by
    rw [spd_shiftT ht, bt_per ht.rnd_pos (spd_per t)]
  have e2 : rnd (shiftT (bt (spd t) (rnd t)) t) = rnd t := rnd_mapT _ t
  unfold onceL sps
  rw [e, e2]

set_option maxRecDepth 100000 in
set_option maxHeartbeats 2000000 in
theorem TideSums_early (v x : Value) (t u : List (List Int)) (h b : Int) (w : World) (hv : RowsAt w v t) (hx : RowsAt w x u)
    (hg : ¬ (wide t = false ∧ wide u = false ∧ vld t = true ∧ vld u = true ∧ hourB h = true ∧ hourB b = true)) :
    Calls Try.prog 14 #[v, x, .int .i64 h, .int .i64 b] w fun e w' => e = .returned (.bool true) ∧ Below w.heap.size w w' := by
  cases hw : wide t with
  | true =>
    have W := Lib.hid hw
    clear hw hg
    go_enter Try.func14, Try.ntmps14
    go_wp2_with (first
      | (go_at_call_of 15 v; refine (wide_any _ _ _ hv).mono ?_; rintro e w' ⟨rfl, rfl⟩; rw [W.out])
      | (go_at_call 15; refine (wide_any _ _ _ hx).mono ?_; rintro e w' ⟨rfl, rfl⟩; rw [W2.out])
      | (go_at_call_of 22 v; refine (rValid_any _ _ _ hv).mono ?_; rintro e w' ⟨rfl, rfl⟩; rw [Y.out])
      | (go_at_call 22; refine (rValid_any _ _ _ hx).mono ?_; rintro e w' ⟨rfl, rfl⟩; rw [Y2.out])
      | (go_at_call_of 23 (Value.int .i64 h); refine (rIsHour_any _ _).mono ?_; rintro e w' ⟨rfl, rfl⟩; rw [HH.out])
      | (go_at_call 23; refine (rIsHour_any _ _).mono ?_; rintro e w' ⟨rfl, rfl⟩; rw [H2.out])
      | (go_at_call 16; refine (awake_any _).mono ?_; rintro e w1 ⟨rfl, hb1⟩))
    go_ret
    exact ⟨rfl, hb1⟩
  | false =>
    have W := Lib.hid hw
    cases hw2 : wide u with
    | true =>
      have W2 := Lib.hid hw2
      clear hw hw2 hg
      go_enter Try.func14, Try.ntmps14
      go_wp2_with (first
        | (go_at_call_of 15 v; refine (wide_any _ _ _ hv).mono ?_; rintro e w' ⟨rfl, rfl⟩; rw [W.out])
        | (go_at_call 15; refine (wide_any _ _ _ hx).mono ?_; rintro e w' ⟨rfl, rfl⟩; rw [W2.out])
        | (go_at_call_of 22 v; refine (rValid_any _ _ _ hv).mono ?_; rintro e w' ⟨rfl, rfl⟩; rw [Y.out])
        | (go_at_call 22; refine (rValid_any _ _ _ hx).mono ?_; rintro e w' ⟨rfl, rfl⟩; rw [Y2.out])
        | (go_at_call_of 23 (Value.int .i64 h); refine (rIsHour_any _ _).mono ?_; rintro e w' ⟨rfl, rfl⟩; rw [HH.out])
        | (go_at_call 23; refine (rIsHour_any _ _).mono ?_; rintro e w' ⟨rfl, rfl⟩; rw [H2.out])
        | (go_at_call 16; refine (awake_any _).mono ?_; rintro e w1 ⟨rfl, hb1⟩))
      go_ret
      exact ⟨rfl, hb1⟩
    | false =>
      have W2 := Lib.hid hw2
      cases hy : vld t with
      | false =>
        have Y := Lib.hid hy
        clear hw hw2 hy hg
        go_enter Try.func14, Try.ntmps14
        go_wp2_with (first
          | (go_at_call_of 15 v; refine (wide_any _ _ _ hv).mono ?_; rintro e w' ⟨rfl, rfl⟩; rw [W.out])
          | (go_at_call 15; refine (wide_any _ _ _ hx).mono ?_; rintro e w' ⟨rfl, rfl⟩; rw [W2.out])
          | (go_at_call_of 22 v; refine (rValid_any _ _ _ hv).mono ?_; rintro e w' ⟨rfl, rfl⟩; rw [Y.out])
          | (go_at_call 22; refine (rValid_any _ _ _ hx).mono ?_; rintro e w' ⟨rfl, rfl⟩; rw [Y2.out])
          | (go_at_call_of 23 (Value.int .i64 h); refine (rIsHour_any _ _).mono ?_; rintro e w' ⟨rfl, rfl⟩; rw [HH.out])
          | (go_at_call 23; refine (rIsHour_any _ _).mono ?_; rintro e w' ⟨rfl, rfl⟩; rw [H2.out])
          | (go_at_call 16; refine (awake_any _).mono ?_; rintro e w1 ⟨rfl, hb1⟩))
        go_ret
        exact ⟨rfl, hb1⟩
      | true =>
        have Y := Lib.hid hy
        cases hy2 : vld u with
        | false =>
          have Y2 := Lib.hid hy2
          clear hw hw2 hy hy2 hg
          go_enter Try.func14, Try.ntmps14
          go_wp2_with (first
            | (go_at_call_of 15 v; refine (wide_any _ _ _ hv).mono ?_; rintro e w' ⟨rfl, rfl⟩; rw [W.out])
            | (go_at_call 15; refine (wide_any _ _ _ hx).mono ?_; rintro e w' ⟨rfl, rfl⟩; rw [W2.out])
            | (go_at_call_of 22 v; refine (rValid_any _ _ _ hv).mono ?_; rintro e w' ⟨rfl, rfl⟩; rw [Y.out])
            | (go_at_call 22; refine (rValid_any _ _ _ hx).mono ?_; rintro e w' ⟨rfl, rfl⟩; rw [Y2.out])
            | (go_at_call_of 23 (Value.int .i64 h); refine (rIsHour_any _ _).mono ?_; rintro e w' ⟨rfl, rfl⟩; rw [HH.out])
            | (go_at_call 23; refine (rIsHour_any _ _).mono ?_; rintro e w' ⟨rfl, rfl⟩; rw [H2.out])
            | (go_at_call 16; refine (awake_any _).mono ?_; rintro e w1 ⟨rfl, hb1⟩))
          go_ret
          exact ⟨rfl, hb1⟩
        | true =>
          have Y2 := Lib.hid hy2
          cases hh : hourB h with
          | false =>
            have HH := Lib.hid hh
            clear hw hw2 hy hy2 hh hg
            go_enter Try.func14, Try.ntmps14
            go_wp2_with (first
              | (go_at_call_of 15 v; refine (wide_any _ _ _ hv).mono ?_; rintro e w' ⟨rfl, rfl⟩; rw [W.out])
              | (go_at_call 15; refine (wide_any _ _ _ hx).mono ?_; rintro e w' ⟨rfl, rfl⟩; rw [W2.out])
              | (go_at_call_of 22 v; refine (rValid_any _ _ _ hv).mono ?_; rintro e w' ⟨rfl, rfl⟩; rw [Y.out])
              | (go_at_call 22; refine (rValid_any _ _ _ hx).mono ?_; rintro e w' ⟨rfl, rfl⟩; rw [Y2.out])
              | (go_at_call_of 23 (Value.int .i64 h); refine (rIsHour_any _ _).mono ?_; rintro e w' ⟨rfl, rfl⟩; rw [HH.out])
              | (go_at_call 23; refine (rIsHour_any _ _).mono ?_; rintro e w' ⟨rfl, rfl⟩; rw [H2.out])
              | (go_at_call 16; refine (awake_any _).mono ?_; rintro e w1 ⟨rfl, hb1⟩))
            go_ret
            exact ⟨rfl, hb1⟩
          | true =>
            have HH := Lib.hid hh
            cases h2 : hourB b with
            | false =>
              have H2 := Lib.hid h2
              clear hw hw2 hy hy2 hh h2 hg
              go_enter Try.func14, Try.ntmps14
              go_wp2_with (first
                | (go_at_call_of 15 v; refine (wide_any _ _ _ hv).mono ?_; rintro e w' ⟨rfl, rfl⟩; rw [W.out])
                | (go_at_call 15; refine (wide_any _ _ _ hx).mono ?_; rintro e w' ⟨rfl, rfl⟩; rw [W2.out])
                | (go_at_call_of 22 v; refine (rValid_any _ _ _ hv).mono ?_; rintro e w' ⟨rfl, rfl⟩; rw [Y.out])
                | (go_at_call 22; refine (rValid_any _ _ _ hx).mono ?_; rintro e w' ⟨rfl, rfl⟩; rw [Y2.out])
                | (go_at_call_of 23 (Value.int .i64 h); refine (rIsHour_any _ _).mono ?_; rintro e w' ⟨rfl, rfl⟩; rw [HH.out])
                | (go_at_call 23; refine (rIsHour_any _ _).mono ?_; rintro e w' ⟨rfl, rfl⟩; rw [H2.out])
                | (go_at_call 16; refine (awake_any _).mono ?_; rintro e w1 ⟨rfl, hb1⟩))
              go_ret
              exact ⟨rfl, hb1⟩
            | true => exact absurd ⟨hw, hw2, hy, hy2, hh, h2⟩ hg




set_option maxRecDepth 100000 in
set_option maxHeartbeats 4000000 in
theorem TideSums_main (v x : Value) (t u : List (List Int)) (h b : Int) (w : World) (hv : RowsAt w v t) (hx : RowsAt w x u)
    (hw : wide t = false) (hw2 : wide u = false) (hy : vld t = true) (hy2 : vld u = true) (hh : hourB h = true) (h2 : hourB b = true) :
    Calls Try.prog 14 #[v, x, .int .i64 h, .int .i64 b] w fun e w' => e = .returned (.bool true) ∧ Below w.heap.size w w' := by
  have hb := (hourB_iff h).1 hh
  have hb2 := (hourB_iff b).1 h2
  have ht := (vld_iff t).1 hy
  have hu := (vld_iff u).1 hy2
  have hr := ht.rnd_pos
  have hr2 := ht.rnd_le
  have bt1 := bt_pos (f := spd t) hr
  have bt2 := bt_le (f := spd t) hr
  have bs1 := ht.bd h
  have bs2 := hu.bd h
  have YS : Hid (vld (shiftT b t) = true) := Lib.hid ((vld_iff _).2 (vld_shiftT ht b))
  have YB : Hid (vld (shiftT (bt (spd t) (rnd t)) t) = true) := Lib.hid ((vld_iff _).2 (vld_shiftT ht _))
  have BB := Lib.hid (shift_same ht)
  have SS : Hid (spd (shiftT b t) h = spd t (h + b)) := Lib.hid (spd_shiftT ht b h)
  have NS : Hid (acc (spd (shiftT b t)) 0 (rnd (shiftT b t)) = acc (spd t) 0 (rnd t)) := Lib.hid (by
    rw [show rnd (shiftT b t) = rnd t from rnd_mapT _ t, acc_shiftT ht]
    exact acc_whole (spd_per t) _ _)
  have W := Lib.hid hw
  have W2 := Lib.hid hw2
  have Y := Lib.hid hy
  have Y2 := Lib.hid hy2
  have HH := Lib.hid hh
  have H2 := Lib.hid h2
  obtain ⟨va, vc, rfl, _, _⟩ := id hv
  obtain ⟨xa, xc, rfl, _, _⟩ := id hx
  by_cases hl : t.length + u.length ≤ 4
  · have VA : Hid (vld (t ++ u) = true) := Lib.hid ((vld_iff _).2 (vld_append ht hu hl))
    have SA : Hid (spd (t ++ u) h = spd t h + spd u h) := Lib.hid (spd_append t u h)
    have hI := Inv2.start hv hx
    clear hw hw2 hy hy2 hh h2 hv hx ht hu
    go_enter Try.func14, Try.ntmps14
    go_wp2_with fail
    refine (wide_any _ _ _ hI.r).mono ?_
    rintro e w' ⟨rfl, rfl⟩
    rw [W.out]
    go_wp2_with fail
    refine (wide_any _ _ _ hI.s).mono ?_
    rintro e w' ⟨rfl, rfl⟩
    rw [W2.out]
    go_wp2_with fail
    refine (rValid_any _ _ _ hI.r).mono ?_
    rintro e w' ⟨rfl, rfl⟩
    rw [Y.out]
    go_wp2_with fail
    refine (rValid_any _ _ _ hI.s).mono ?_
    rintro e w' ⟨rfl, rfl⟩
    rw [Y2.out]
    go_wp2_with fail
    refine (rIsHour_any _ _).mono ?_
    rintro e w' ⟨rfl, rfl⟩
    rw [HH.out]
    go_wp2_with fail
    refine (rIsHour_any _ _).mono ?_
    rintro e w' ⟨rfl, rfl⟩
    rw [H2.out]
    go_wp2_with fail
    refine (tSpeed_v _ _ _ _ hI.r Y.out hb.1 hb.2).mono ?_
    rintro e wn ⟨rfl, hbn⟩
    replace hI := hI.step hbn
    clear hbn
    go_wp2_with fail
    refine (tSpeed_v _ _ _ _ hI.s Y2.out hb.1 hb.2).mono ?_
    rintro e wn ⟨rfl, hbn⟩
    replace hI := hI.step hbn
    clear hbn
    go_wp2_with fail
    refine (tSum_yes _ _ _ _ _ hI.r hI.s Y.out Y2.out hl).mono ?_
    rintro e wn ⟨oo, rfl, ho, hbn⟩
    replace hI := hI.step hbn
    clear hbn
    go_wp2_with fail
    refine (tSpeed_v _ _ _ _ ho VA.out hb.1 hb.2).mono ?_
    rintro e wn ⟨rfl, hbn⟩
    replace hI := hI.step hbn
    clear hbn
    rw [SA.out]
    clear ho
    go_wp2_with fail
    refine (tShifted_v _ _ _ _ hI.r Y.out hb2.1 hb2.2).mono ?_
    rintro e wn ⟨os, rfl, hos, hbn⟩
    replace hI := hI.step hbn
    clear hbn
    go_wp2_with fail
    refine (tNet_v _ _ _ hI.r Y.out).mono ?_
    rintro e wn ⟨rfl, hbn⟩
    replace hI := hI.step hbn
    replace hos := hos.below hbn
    clear hbn
    go_wp2_with fail
    refine (tNet_v _ _ _ hos YS.out).mono ?_
    rintro e wn ⟨rfl, hbn⟩
    replace hI := hI.step hbn
    replace hos := hos.below hbn
    clear hbn
    rw [NS.out]
    cases hx : hourB (h + b) with
    | false =>
      have HX := Lib.hid hx
      clear hx
      go_wp2_with fail
      refine (rIsHour_any _ _).mono ?_
      rintro e w' ⟨rfl, rfl⟩
      rw [HX.out]
      go_wp2_with fail
      refine (tBeat_v _ _ _ hI.r Y.out).mono ?_
      rintro e wn ⟨rfl, hbn⟩
      replace hI := hI.step hbn
      clear hbn
      go_wp2_with fail
      refine (tShifted_v _ _ _ _ hI.r Y.out (by omega) (by omega)).mono ?_
      rintro e wn ⟨ox, rfl, hox, hbn⟩
      replace hI := hI.step hbn
      clear hbn
      go_wp2_with fail
      refine (tSame_any _ _ _ _ _ hI.r hox).mono ?_
      rintro e wn ⟨rfl, hbn⟩
      replace hI := hI.step hbn
      clear hbn
      rw [qs_yes Y.out YB.out, qse_yes Y.out YB.out, decide_eq_true BB.out]
      go_wp2_with (first
        | (go_at_call 16; refine (awake_any _).mono ?_; rintro e w1 ⟨rfl, hb1⟩))
      go_ret
      exact ⟨rfl, below_trans hI.b hb1⟩
    | true =>
      have HX := Lib.hid hx
      have hxb := (hourB_iff _).1 hx
      clear hx
      go_wp2_with fail
      refine (rIsHour_any _ _).mono ?_
      rintro e w' ⟨rfl, rfl⟩
      rw [HX.out]
      go_wp2_with fail
      refine (tSpeed_v _ _ _ _ hos YS.out hb.1 hb.2).mono ?_
      rintro e wn ⟨rfl, hbn⟩
      replace hI := hI.step hbn
      replace hos := hos.below hbn
      clear hbn
      rw [SS.out]
      go_wp2_with fail
      refine (tSpeed_v _ _ _ _ hI.r Y.out hxb.1 hxb.2).mono ?_
      rintro e wn ⟨rfl, hbn⟩
      replace hI := hI.step hbn
      clear hbn
      go_wp2_with fail
      refine (tBeat_v _ _ _ hI.r Y.out).mono ?_
      rintro e wn ⟨rfl, hbn⟩
      replace hI := hI.step hbn
      clear hbn
      go_wp2_with fail
      refine (tShifted_v _ _ _ _ hI.r Y.out (by omega) (by omega)).mono ?_
      rintro e wn ⟨ox, rfl, hox, hbn⟩
      replace hI := hI.step hbn
      clear hbn
      go_wp2_with fail
      refine (tSame_any _ _ _ _ _ hI.r hox).mono ?_
      rintro e wn ⟨rfl, hbn⟩
      replace hI := hI.step hbn
      clear hbn
      rw [qs_yes Y.out YB.out, qse_yes Y.out YB.out, decide_eq_true BB.out]
      go_wp2_with (first
        | (go_at_call 16; refine (awake_any _).mono ?_; rintro e w1 ⟨rfl, hb1⟩))
      go_ret
      exact ⟨rfl, below_trans hI.b hb1⟩
  · have l1 := ht.hi
    have l2 := hu.hi
    have hl2 : ¬ ((t.length : Int) + (u.length : Int) ≤ 4) := by omega
    have hI := Inv2.start hv hx
    clear hw hw2 hy hy2 hh h2 hv hx ht hu
    go_enter Try.func14, Try.ntmps14
    go_wp2_with fail
    refine (wide_any _ _ _ hI.r).mono ?_
    rintro e w' ⟨rfl, rfl⟩
    rw [W.out]
    go_wp2_with fail
    refine (wide_any _ _ _ hI.s).mono ?_
    rintro e w' ⟨rfl, rfl⟩
    rw [W2.out]
    go_wp2_with fail
    refine (rValid_any _ _ _ hI.r).mono ?_
    rintro e w' ⟨rfl, rfl⟩
    rw [Y.out]
    go_wp2_with fail
    refine (rValid_any _ _ _ hI.s).mono ?_
    rintro e w' ⟨rfl, rfl⟩
    rw [Y2.out]
    go_wp2_with fail
    refine (rIsHour_any _ _).mono ?_
    rintro e w' ⟨rfl, rfl⟩
    rw [HH.out]
    go_wp2_with fail
    refine (rIsHour_any _ _).mono ?_
    rintro e w' ⟨rfl, rfl⟩
    rw [H2.out]
    go_wp2_with fail
    refine (tSpeed_v _ _ _ _ hI.r Y.out hb.1 hb.2).mono ?_
    rintro e wn ⟨rfl, hbn⟩
    replace hI := hI.step hbn
    clear hbn
    go_wp2_with fail
    refine (tSpeed_v _ _ _ _ hI.s Y2.out hb.1 hb.2).mono ?_
    rintro e wn ⟨rfl, hbn⟩
    replace hI := hI.step hbn
    clear hbn
    go_wp2_with fail
    refine (tSum_big _ _ _ _ _ hI.r hI.s Y.out Y2.out hl).mono ?_
    rintro e wn ⟨oo, rfl, ho, hbn⟩
    replace hI := hI.step hbn
    clear hbn ho
    go_wp2_with fail
    refine (tShifted_v _ _ _ _ hI.r Y.out hb2.1 hb2.2).mono ?_
    rintro e wn ⟨os, rfl, hos, hbn⟩
    replace hI := hI.step hbn
    clear hbn
    go_wp2_with fail
    refine (tNet_v _ _ _ hI.r Y.out).mono ?_
    rintro e wn ⟨rfl, hbn⟩
    replace hI := hI.step hbn
    replace hos := hos.below hbn
    clear hbn
    go_wp2_with fail
    refine (tNet_v _ _ _ hos YS.out).mono ?_
    rintro e wn ⟨rfl, hbn⟩
    replace hI := hI.step hbn
    replace hos := hos.below hbn
    clear hbn
    rw [NS.out]
    cases hx : hourB (h + b) with
    | false =>
      have HX := Lib.hid hx
      clear hx
      go_wp2_with fail
      refine (rIsHour_any _ _).mono ?_
      rintro e w' ⟨rfl, rfl⟩
      rw [HX.out]
      go_wp2_with fail
      refine (tBeat_v _ _ _ hI.r Y.out).mono ?_
      rintro e wn ⟨rfl, hbn⟩
      replace hI := hI.step hbn
      clear hbn
      go_wp2_with fail
      refine (tShifted_v _ _ _ _ hI.r Y.out (by omega) (by omega)).mono ?_
      rintro e wn ⟨ox, rfl, hox, hbn⟩
      replace hI := hI.step hbn
      clear hbn
      go_wp2_with fail
      refine (tSame_any _ _ _ _ _ hI.r hox).mono ?_
      rintro e wn ⟨rfl, hbn⟩
      replace hI := hI.step hbn
      clear hbn
      rw [qs_yes Y.out YB.out, qse_yes Y.out YB.out, decide_eq_true BB.out]
      go_wp2_with (first
        | (go_at_call 16; refine (awake_any _).mono ?_; rintro e w1 ⟨rfl, hb1⟩))
      go_ret
      exact ⟨rfl, below_trans hI.b hb1⟩
    | true =>
      have HX := Lib.hid hx
      have hxb := (hourB_iff _).1 hx
      clear hx
      go_wp2_with fail
      refine (rIsHour_any _ _).mono ?_
      rintro e w' ⟨rfl, rfl⟩
      rw [HX.out]
      go_wp2_with fail
      refine (tSpeed_v _ _ _ _ hos YS.out hb.1 hb.2).mono ?_
      rintro e wn ⟨rfl, hbn⟩
      replace hI := hI.step hbn
      replace hos := hos.below hbn
      clear hbn
      rw [SS.out]
      go_wp2_with fail
      refine (tSpeed_v _ _ _ _ hI.r Y.out hxb.1 hxb.2).mono ?_
      rintro e wn ⟨rfl, hbn⟩
      replace hI := hI.step hbn
      clear hbn
      go_wp2_with fail
      refine (tBeat_v _ _ _ hI.r Y.out).mono ?_
      rintro e wn ⟨rfl, hbn⟩
      replace hI := hI.step hbn
      clear hbn
      go_wp2_with fail
      refine (tShifted_v _ _ _ _ hI.r Y.out (by omega) (by omega)).mono ?_
      rintro e wn ⟨ox, rfl, hox, hbn⟩
      replace hI := hI.step hbn
      clear hbn
      go_wp2_with fail
      refine (tSame_any _ _ _ _ _ hI.r hox).mono ?_
      rintro e wn ⟨rfl, hbn⟩
      replace hI := hI.step hbn
      clear hbn
      rw [qs_yes Y.out YB.out, qse_yes Y.out YB.out, decide_eq_true BB.out]
      go_wp2_with (first
        | (go_at_call 16; refine (awake_any _).mono ?_; rintro e w1 ⟨rfl, hb1⟩))
      go_ret
      exact ⟨rfl, below_trans hI.b hb1⟩

theorem TideSums_walk (v x : Value) (t u : List (List Int)) (h b : Int) (w : World) (hv : RowsAt w v t) (hx : RowsAt w x u) :
    Calls Try.prog 14 #[v, x, .int .i64 h, .int .i64 b] w fun e w' => e = .returned (.bool true) ∧ Below w.heap.size w w' := by
  by_cases hg : wide t = false ∧ wide u = false ∧ vld t = true ∧ vld u = true ∧ hourB h = true ∧ hourB b = true
  · exact TideSums_main v x t u h b w hv hx hg.1 hg.2.1 hg.2.2.1 hg.2.2.2.1 hg.2.2.2.2.1 hg.2.2.2.2.2
  · exact TideSums_early v x t u h b w hv hx hg

end Go.Proofs.Ytflhpnhehaokpaa
