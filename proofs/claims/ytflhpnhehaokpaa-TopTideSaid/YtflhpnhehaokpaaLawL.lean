/- The walk of the law TopTide. -/
import Derived.Test.YtflhpnhehaokpaaLawK
import Derived.BigQuiet
namespace Go.Proofs.Ytflhpnhehaokpaa
open Go.RowKit

theorem tBeat_b {b : Nat} (v : Value) (t : List (List Int)) (w : World) (hv : RowsAt w v t) (hy : vld t = true) (hB : bt (spd t) (rnd t) = b) :
    Calls Try.prog 26 #[v] w fun e w' => e = .returned (.tuple #[.int .i64 b, .int .i64 0]) ∧ Below w.heap.size w w' := by
  subst hB; exact tBeat_v v t w hv hy
theorem tOnce_b {b : Nat} (v : Value) (t : List (List Int)) (w : World) (hv : RowsAt w v t) (hy : vld t = true) (hB : bt (spd t) (rnd t) = b) :
    Calls Try.prog 27 #[v] w (GivesLE (sps t b) 0 w) := by
  subst hB; exact tOnce_yes v t w hv hy
theorem tRound_b {r : Nat} (v : Value) (t : List (List Int)) (w : World) (hv : RowsAt w v t) (hy : vld t = true) (hR : rnd t = r) :
    Calls Try.prog 24 #[v] w fun e w' => e = .returned (.tuple #[.int .i64 r, .int .i64 0]) ∧ Below w.heap.size w w' := by
  subst hR; exact tRound_v v t w hv hy
theorem tNet_b {n : Int} (v : Value) (t : List (List Int)) (w : World) (hv : RowsAt w v t) (hy : vld t = true) (hN : acc (spd t) 0 (rnd t) = n) :
    Calls Try.prog 25 #[v] w fun e w' => e = .returned (.tuple #[.int .i64 n, .int .i64 0]) ∧ Below w.heap.size w w' := by
  subst hN; exact tNet_v v t w hv hy
theorem tDrift_b {n : Int} (v : Value) (t : List (List Int)) (h : Int) (k : Nat) (w : World) (hv : RowsAt w v t) (hy : vld t = true) (h1 : -1000000 ≤ h) (h2 : h ≤ 1000000) (h4 : k ≤ 1000000) (hN : acc (spd t) h k = n) :
    Calls Try.prog 19 #[v, .int .i64 h, .int .i64 k] w fun e w' => e = .returned (.tuple #[.int .i64 n, .int .i64 0]) ∧ Below w.heap.size w w' := by
  have := tDrift_v v t h k w hv hy h1 h2 (by omega) (by omega)
  rw [Int.toNat_natCast, hN] at this
  exact this

set_option maxRecDepth 100000 in
set_option maxHeartbeats 4000000 in
theorem rounds_aux (v : Value) (t : List (List Int)) (h : Int) (r b q : Nat) (n s : Int) (w : World) (hv : RowsAt w v t) (hy : vld t = true) (h1 : -1000000 ≤ h) (h2 : h ≤ 1000000)
    (hR : rnd t = r) (hB : bt (spd t) (rnd t) = b) (hN : acc (spd t) 0 (rnd t) = n) (hS : acc (spd t) 0 b = s) (hq : r = q * b) (hb0 : 0 < b) (hr0 : 0 < r) (hr1 : r ≤ 27720) (hsq : s * q = n) :
    Calls Try.prog 37 #[v, .int .i64 h] w fun e w' => e = .returned (.tuple #[.int .i64 r, .int .i64 n, .bool true]) ∧ Below w.heap.size w w' := by
  have ht := (vld_iff t).1 hy
  have bdn : -11088000 ≤ n ∧ n ≤ 11088000 := by
    have := some_bd ht 0 (rnd t)
    rw [hN] at this
    omega
  have hb1 : b ≤ r := by
    have := bt_le (f := spd t) ht.rnd_pos
    omega
  have hm : ((r : Int) % (b : Int) != 0) = false := by
    rw [bne_eq_false_iff_eq, hq, Int.natCast_mul]
    exact Int.mul_emod_left _ _
  have hdv : (r : Int) / (b : Int) = q := by
    rw [hq, Int.natCast_mul]
    exact Int.mul_ediv_cancel _ (by omega)
  have hq1 : q ≤ 27720 := by
    have := Nat.le_mul_of_pos_right q hb0
    omega
  have D := Lib.hid hdv
  have R := Lib.hid hR
  have B := Lib.hid hB
  have N := Lib.hid hN
  have S := Lib.hid hS
  have SQ := Lib.hid hsq
  have Y := Lib.hid hy
  have hA : Hid (acc (spd t) h r = n) := Lib.hid (by rw [← hN, ← hR]; exact acc_whole (spd_per t) _ _)
  have hI := Inv.start hv
  clear hdv hR hB hN hS hsq hy hq hv
  go_enter Try.func37, Try.ntmps37
  go_wp2_with (first
    | (go_at_call 24; refine (tRound_b _ _ _ hI.r Y.out R.out).mono ?_; rintro e wn ⟨rfl, hbn⟩; replace hI := hI.step hbn; clear hbn)
    | (go_at_call 25; refine (tNet_b _ _ _ hI.r Y.out N.out).mono ?_; rintro e wn ⟨rfl, hbn⟩; replace hI := hI.step hbn; clear hbn)
    | (go_at_call 26; refine (tBeat_b _ _ _ hI.r Y.out B.out).mono ?_; rintro e wn ⟨rfl, hbn⟩; replace hI := hI.step hbn; clear hbn))
  refine (tOnce_b _ _ _ hI.r Y.out B.out).mono ?_
  rintro e wn ⟨ov, rfl, ho, hbn⟩
  replace hI := hI.step hbn
  clear hbn
  have hlc := ints_cell ho (by rw [sps_length]; exact hb0)
  rw [sps_length] at hlc
  obtain ⟨lb, lo, lcap, rfl, hcell⟩ := hlc
  clear ho
  go_wp2_with fail
  refine (tDrift_b _ _ _ _ _ hI.r Y.out h1 h2 (by omega) hA.out).mono ?_
  rintro e wn2 ⟨rfl, hbn⟩
  replace hI := hI.step hbn
  have hcell2 : ∀ j, j < b → wn2.cell? ⟨lb, lo + j, none⟩ = some (.int .i64 (spd t j)) := fun j hj => by
    rw [keep_cell hbn (hcell j hj), sps_get _ _ _ hj]
  have C := Lib.hid hcell2
  clear hbn hcell hcell2
  go_wp2
  go_loop [14, 80] (fun s i => ∃ k : Nat, k ≤ b ∧ i = .int .i64 k ∧ s = .int .i64 (acc (spd t) 0 k)) (fun _ i => b - (intOf i).toNat)
  case atStart => exact ⟨0, Nat.zero_le _, rfl, rfl⟩
  case round =>
    obtain ⟨k, hk, rfl, rfl⟩ := hrel
    by_cases hlt : k < b
    · have hc := C.out k hlt
      have A : Hid (acc (spd t) 0 (k + 1) = acc (spd t) 0 k + spd t k) := Lib.hid (by simp [acc])
      have bd1 := some_bd ht 0 k
      have bd2 := ht.bd k
      generalize spd t k = x at *
      go_wp2
      go_round
      case rel => exact ⟨k + 1, by omega, by go_num, by rw [A.out]⟩
      case measure => simp [intOf]; omega
    · have e : k = b := by omega
      subst e
      have bds := some_bd ht 0 k
      rw [S.out] at bds ⊢
      have p0 : s * ((r : Int) / (k : Int)) = n := by rw [D.out]; exact SQ.out
      have p1 : s * ((r : Int) / (k : Int)) ≤ n := by omega
      have p2 : n ≤ s * ((r : Int) / (k : Int)) := by omega
      have p3 : (s * ((r : Int) / (k : Int)) == n) = true := by rw [beq_iff_eq]; exact p0
      have p4 : 0 ≤ (r : Int) / (k : Int) ∧ (r : Int) / (k : Int) ≤ 27720 := by rw [D.out]; omega
      clear p0
      go_wp2
      refine wp_region_quiet_lit (by kernel_rfl) (by kernel_rfl) ?_
      repeat (any_goals (first | go_big_quiet_step (fail) | quiet_step (fail)))
      all_goals (refine wpQuiet_nil ?_; intro _ hw'; obtain ⟨nq, hw''⟩ := hw'; subst hw'')
      all_goals go_wp2
      all_goals go_ret3
      exact ⟨rfl, below_trans hI.b (below_drewN (Below.refl _ _) _)⟩

theorem rounds_v (v : Value) (t : List (List Int)) (h : Int) (r : Nat) (n : Int) (w : World) (hv : RowsAt w v t) (hy : vld t = true) (h1 : -1000000 ≤ h) (h2 : h ≤ 1000000) (hR : rnd t = r) (hN : acc (spd t) 0 (rnd t) = n) :
    Calls Try.prog 37 #[v, .int .i64 h] w fun e w' => e = .returned (.tuple #[.int .i64 r, .int .i64 n, .bool true]) ∧ Below w.heap.size w w' := by
  have ht := (vld_iff t).1 hy
  have hr := ht.rnd_pos
  have hb := bt_pos (f := spd t) hr
  have hm := bt_mod (f := spd t) hr
  have hd := Nat.div_add_mod (rnd t) (bt (spd t) (rnd t))
  have hq : rnd t = rnd t / bt (spd t) (rnd t) * bt (spd t) (rnd t) := by rw [Nat.mul_comm]; omega
  have ha := acc_rounds (bt_per hr (spd_per t)) 0 (rnd t / bt (spd t) (rnd t)) 0
  rw [Nat.add_zero, ← hq] at ha
  simp only [acc, Int.add_zero] at ha
  refine rounds_aux v t h r (bt (spd t) (rnd t)) (rnd t / bt (spd t) (rnd t)) n _ w hv hy h1 h2 hR rfl hN rfl (hR ▸ hq) hb (by omega) (by have := ht.rnd_le; omega) ?_
  rw [Int.mul_comm, ← ha, hN]

theorem sum_beat {t u : List (List Int)} (ht : Vld t) (hu : Vld u) (hl : t.length + u.length ≤ 4) {m : Nat} (h1 : bt (spd t) (rnd t) ∣ m) (h2 : bt (spd u) (rnd u) ∣ m) : bt (spd (t ++ u)) (rnd (t ++ u)) ∣ m := by
  have hs := vld_append ht hu hl
  have p1 : Per (spd t) m := (bt_per ht.rnd_pos (spd_per t)).dvd (Int.ofNat_dvd.2 h1)
  have p2 : Per (spd u) m := (bt_per hu.rnd_pos (spd_per u)).dvd (Int.ofNat_dvd.2 h2)
  refine bt_dvd hs.rnd_pos (spd_per _) (fun x => ?_)
  rw [spd_append, spd_append, p1, p2]

theorem beat_all {t : List (List Int)} (ht : Vld t) : bt (spd t) (rnd t) ∣ 27720 :=
  Nat.dvd_trans (Nat.dvd_of_mod_eq_zero (bt_mod ht.rnd_pos)) ht.rnd_all

/-- The next multiple of one that the loop meets is at most 27720. -/
theorem next_le {one m N : Nat} (h1 : one ∣ m) (h2 : one ∣ N) (hlt : m < N) : m + one ≤ N := by
  have := Nat.le_of_dvd (by omega) (Nat.dvd_sub h2 h1)
  omega

set_option maxRecDepth 100000 in
set_option maxHeartbeats 2000000 in
theorem TopTide_early (v x : Value) (t u : List (List Int)) (h b n : Int) (w : World) (hv : RowsAt w v t) (hx : RowsAt w x u)
    (hg : ¬ (wide t = false ∧ wide u = false ∧ vld t = true ∧ vld u = true ∧ hourB h = true ∧ hourB b = true)) :
    Calls Try.prog 10 #[v, x, .int .i64 h, .int .i64 b, .int .u16 n] w fun e w' => e = .returned (.bool true) ∧ Below w.heap.size w w' := by
  cases hw : wide t with
  | true =>
    have W := Lib.hid hw
    clear hw hg
    go_enter Try.func10, Try.ntmps10
    go_wp2_with (first
      | (go_at_call_of 15 v; refine (wide_any _ _ _ hv).mono ?_; rintro e w' ⟨rfl, rfl⟩; rw [W.out])
      | (go_at_call 15; refine (wide_any _ _ _ hx).mono ?_; rintro e w' ⟨rfl, rfl⟩; rw [W2.out])
      | (go_at_call_of 22 v; refine (rValid_any _ _ _ hv).mono ?_; rintro e w' ⟨rfl, rfl⟩; rw [Y.out])
      | (go_at_call 22; refine (rValid_any _ _ _ hx).mono ?_; rintro e w' ⟨rfl, rfl⟩; rw [Y2.out])
      | (go_at_call_of 23 (Value.int .i64 h); refine (rIsHour_any _ _).mono ?_; rintro e w' ⟨rfl, rfl⟩; rw [HH.out])
      | (go_at_call 23; refine (rIsHour_any _ _).mono ?_; rintro e w' ⟨rfl, rfl⟩; rw [H2.out])
      | (go_at_call 16; refine (awake_any _).mono ?_; rintro e w1 ⟨rfl, hb1⟩))
    go_ret
    exact ⟨rfl, hb1⟩
  | false =>
    have W := Lib.hid hw
    cases hw2 : wide u with
    | true =>
      have W2 := Lib.hid hw2
      clear hw hw2 hg
      go_enter Try.func10, Try.ntmps10
      go_wp2_with (first
        | (go_at_call_of 15 v; refine (wide_any _ _ _ hv).mono ?_; rintro e w' ⟨rfl, rfl⟩; rw [W.out])
        | (go_at_call 15; refine (wide_any _ _ _ hx).mono ?_; rintro e w' ⟨rfl, rfl⟩; rw [W2.out])
        | (go_at_call_of 22 v; refine (rValid_any _ _ _ hv).mono ?_; rintro e w' ⟨rfl, rfl⟩; rw [Y.out])
        | (go_at_call 22; refine (rValid_any _ _ _ hx).mono ?_; rintro e w' ⟨rfl, rfl⟩; rw [Y2.out])
        | (go_at_call_of 23 (Value.int .i64 h); refine (rIsHour_any _ _).mono ?_; rintro e w' ⟨rfl, rfl⟩; rw [HH.out])
        | (go_at_call 23; refine (rIsHour_any _ _).mono ?_; rintro e w' ⟨rfl, rfl⟩; rw [H2.out])
        | (go_at_call 16; refine (awake_any _).mono ?_; rintro e w1 ⟨rfl, hb1⟩))
      go_ret
      exact ⟨rfl, hb1⟩
    | false =>
      have W2 := Lib.hid hw2
      cases hy : vld t with
      | false =>
        have Y := Lib.hid hy
        clear hw hw2 hy hg
        go_enter Try.func10, Try.ntmps10
        go_wp2_with (first
          | (go_at_call_of 15 v; refine (wide_any _ _ _ hv).mono ?_; rintro e w' ⟨rfl, rfl⟩; rw [W.out])
          | (go_at_call 15; refine (wide_any _ _ _ hx).mono ?_; rintro e w' ⟨rfl, rfl⟩; rw [W2.out])
          | (go_at_call_of 22 v; refine (rValid_any _ _ _ hv).mono ?_; rintro e w' ⟨rfl, rfl⟩; rw [Y.out])
          | (go_at_call 22; refine (rValid_any _ _ _ hx).mono ?_; rintro e w' ⟨rfl, rfl⟩; rw [Y2.out])
          | (go_at_call_of 23 (Value.int .i64 h); refine (rIsHour_any _ _).mono ?_; rintro e w' ⟨rfl, rfl⟩; rw [HH.out])
          | (go_at_call 23; refine (rIsHour_any _ _).mono ?_; rintro e w' ⟨rfl, rfl⟩; rw [H2.out])
          | (go_at_call 16; refine (awake_any _).mono ?_; rintro e w1 ⟨rfl, hb1⟩))
        go_ret
        exact ⟨rfl, hb1⟩
      | true =>
        have Y := Lib.hid hy
        cases hy2 : vld u with
        | false =>
          have Y2 := Lib.hid hy2
          clear hw hw2 hy hy2 hg
          go_enter Try.func10, Try.ntmps10
          go_wp2_with (first
            | (go_at_call_of 15 v; refine (wide_any _ _ _ hv).mono ?_; rintro e w' ⟨rfl, rfl⟩; rw [W.out])
            | (go_at_call 15; refine (wide_any _ _ _ hx).mono ?_; rintro e w' ⟨rfl, rfl⟩; rw [W2.out])
            | (go_at_call_of 22 v; refine (rValid_any _ _ _ hv).mono ?_; rintro e w' ⟨rfl, rfl⟩; rw [Y.out])
            | (go_at_call 22; refine (rValid_any _ _ _ hx).mono ?_; rintro e w' ⟨rfl, rfl⟩; rw [Y2.out])
            | (go_at_call_of 23 (Value.int .i64 h); refine (rIsHour_any _ _).mono ?_; rintro e w' ⟨rfl, rfl⟩; rw [HH.out])
            | (go_at_call 23; refine (rIsHour_any _ _).mono ?_; rintro e w' ⟨rfl, rfl⟩; rw [H2.out])
            | (go_at_call 16; refine (awake_any _).mono ?_; rintro e w1 ⟨rfl, hb1⟩))
          go_ret
          exact ⟨rfl, hb1⟩
        | true =>
          have Y2 := Lib.hid hy2
          cases hh : hourB h with
          | false =>
            have HH := Lib.hid hh
            clear hw hw2 hy hy2 hh hg
            go_enter Try.func10, Try.ntmps10
            go_wp2_with (first
              | (go_at_call_of 15 v; refine (wide_any _ _ _ hv).mono ?_; rintro e w' ⟨rfl, rfl⟩; rw [W.out])
              | (go_at_call 15; refine (wide_any _ _ _ hx).mono ?_; rintro e w' ⟨rfl, rfl⟩; rw [W2.out])
              | (go_at_call_of 22 v; refine (rValid_any _ _ _ hv).mono ?_; rintro e w' ⟨rfl, rfl⟩; rw [Y.out])
              | (go_at_call 22; refine (rValid_any _ _ _ hx).mono ?_; rintro e w' ⟨rfl, rfl⟩; rw [Y2.out])
              | (go_at_call_of 23 (Value.int .i64 h); refine (rIsHour_any _ _).mono ?_; rintro e w' ⟨rfl, rfl⟩; rw [HH.out])
              | (go_at_call 23; refine (rIsHour_any _ _).mono ?_; rintro e w' ⟨rfl, rfl⟩; rw [H2.out])
              | (go_at_call 16; refine (awake_any _).mono ?_; rintro e w1 ⟨rfl, hb1⟩))
            go_ret
            exact ⟨rfl, hb1⟩
          | true =>
            have HH := Lib.hid hh
            cases h2 : hourB b with
            | false =>
              have H2 := Lib.hid h2
              clear hw hw2 hy hy2 hh h2 hg
              go_enter Try.func10, Try.ntmps10
              go_wp2_with (first
                | (go_at_call_of 15 v; refine (wide_any _ _ _ hv).mono ?_; rintro e w' ⟨rfl, rfl⟩; rw [W.out])
                | (go_at_call 15; refine (wide_any _ _ _ hx).mono ?_; rintro e w' ⟨rfl, rfl⟩; rw [W2.out])
                | (go_at_call_of 22 v; refine (rValid_any _ _ _ hv).mono ?_; rintro e w' ⟨rfl, rfl⟩; rw [Y.out])
                | (go_at_call 22; refine (rValid_any _ _ _ hx).mono ?_; rintro e w' ⟨rfl, rfl⟩; rw [Y2.out])
                | (go_at_call_of 23 (Value.int .i64 h); refine (rIsHour_any _ _).mono ?_; rintro e w' ⟨rfl, rfl⟩; rw [HH.out])
                | (go_at_call 23; refine (rIsHour_any _ _).mono ?_; rintro e w' ⟨rfl, rfl⟩; rw [H2.out])
                | (go_at_call 16; refine (awake_any _).mono ?_; rintro e w1 ⟨rfl, hb1⟩))
              go_ret
              exact ⟨rfl, hb1⟩
            | true => exact absurd ⟨hw, hw2, hy, hy2, hh, h2⟩ hg





set_option maxRecDepth 100000 in
set_option maxHeartbeats 8000000 in
theorem TopTide_main (v x : Value) (t u : List (List Int)) (h b : Int) (n : Nat) (w : World) (hv : RowsAt w v t) (hx : RowsAt w x u) (hn : n ≤ 65535)
    (hw : wide t = false) (hw2 : wide u = false) (hy : vld t = true) (hy2 : vld u = true) (hh : hourB h = true) (h2 : hourB b = true) :
    Calls Try.prog 10 #[v, x, .int .i64 h, .int .i64 b, .int .u16 n] w fun e w' => e = .returned (.bool true) ∧ Below w.heap.size w w' := by
  have hb := (hourB_iff h).1 hh
  have hb2 := (hourB_iff b).1 h2
  have ht := (vld_iff t).1 hy
  have hu := (vld_iff u).1 hy2
  have hr := ht.rnd_pos
  have hr2 := ht.rnd_le
  have hs2 := hu.rnd_le
  have o1 := bt_pos (f := spd t) hr
  have o2 := bt_le (f := spd t) hr
  have o3 := bt_pos (f := spd u) hu.rnd_pos
  have o4 := bt_le (f := spd u) hu.rnd_pos
  have bn := some_bd ht 0 (rnd t)
  have bd1 := some_bd ht h n
  have bd2 := some_bd hu h n
  have A1 := Lib.hid (beat_all ht)
  have A2 := Lib.hid (beat_all hu)
  have YS : Hid (vld (shiftT b t) = true) := Lib.hid ((vld_iff _).2 (vld_shiftT ht b))
  have YB : Hid (vld (backT t) = true) := Lib.hid ((vld_iff _).2 (vld_backT ht))
  have RS : Hid (rnd (shiftT b t) = rnd t) := Lib.hid (rnd_mapT _ t)
  have RB : Hid (rnd (backT t) = rnd t) := Lib.hid (rnd_mapT _ t)
  have NS : Hid (acc (spd (shiftT b t)) 0 (rnd (shiftT b t)) = acc (spd t) 0 (rnd t)) := Lib.hid (by
    rw [RS.out, acc_shiftT ht]
    exact acc_whole (spd_per t) _ _)
  have NB : Hid (acc (spd (backT t)) 0 (rnd (backT t)) = -acc (spd t) 0 (rnd t)) := Lib.hid (by
    rw [RB.out, acc_backT ht]
    rw [acc_whole (spd_per t) _ 0])
  have DS : Hid (acc (spd (shiftT b t)) h n = acc (spd t) (h + b) n) := Lib.hid (acc_shiftT ht b h n)
  have W := Lib.hid hw
  have W2 := Lib.hid hw2
  have Y := Lib.hid hy
  have Y2 := Lib.hid hy2
  have HH := Lib.hid hh
  have H2 := Lib.hid h2
  have HT := Lib.hid ht
  have HU := Lib.hid hu
  obtain ⟨va, vc, rfl, _, _⟩ := id hv
  obtain ⟨xa, xc, rfl, _, _⟩ := id hx
  have hI := Inv2.start hv hx
  clear hw hw2 hy hy2 hh h2 hv hx ht hu
  go_enter Try.func10, Try.ntmps10
  go_wp2_with fail
  refine (wide_any _ _ _ hI.r).mono ?_
  rintro e w' ⟨rfl, rfl⟩
  rw [W.out]
  go_wp2_with fail
  refine (wide_any _ _ _ hI.s).mono ?_
  rintro e w' ⟨rfl, rfl⟩
  rw [W2.out]
  go_wp2_with fail
  refine (rValid_any _ _ _ hI.r).mono ?_
  rintro e w' ⟨rfl, rfl⟩
  rw [Y.out]
  go_wp2_with fail
  refine (rValid_any _ _ _ hI.s).mono ?_
  rintro e w' ⟨rfl, rfl⟩
  rw [Y2.out]
  go_wp2_with fail
  refine (rIsHour_any _ _).mono ?_
  rintro e w' ⟨rfl, rfl⟩
  rw [HH.out]
  go_wp2_with fail
  refine (rIsHour_any _ _).mono ?_
  rintro e w' ⟨rfl, rfl⟩
  rw [H2.out]
  go_wp2_with fail
  refine (rounds_v _ _ _ _ _ _ hI.r Y.out hb.1 hb.2 rfl rfl).mono ?_
  rintro e wn ⟨rfl, hbn⟩
  replace hI := hI.step hbn
  clear hbn
  go_wp2_with fail
  refine (tShifted_v _ _ _ _ hI.r Y.out hb2.1 hb2.2).mono ?_
  rintro e wn ⟨os, rfl, hos, hbn⟩
  replace hI := hI.step hbn
  clear hbn
  go_wp2_with fail
  refine (tBack_v _ _ _ hI.r Y.out).mono ?_
  rintro e wn ⟨ob, rfl, hob, hbn⟩
  replace hI := hI.step hbn
  replace hos := hos.below hbn
  clear hbn
  go_wp2_with fail
  refine (rounds_v _ _ _ _ _ _ hos YS.out hb.1 hb.2 RS.out NS.out).mono ?_
  rintro e wn ⟨rfl, hbn⟩
  replace hI := hI.step hbn
  replace hos := hos.below hbn
  replace hob := hob.below hbn
  clear hbn
  go_wp2_with fail
  refine (rounds_v _ _ _ _ _ _ hob YB.out hb.1 hb.2 RB.out NB.out).mono ?_
  rintro e wn ⟨rfl, hbn⟩
  replace hI := hI.step hbn
  replace hos := hos.below hbn
  clear hbn hob
  cases hx : hourB (h + b) with
  | false =>
    have HX := Lib.hid hx
    clear hx
    go_wp2_with fail
    refine (rIsHour_any _ _).mono ?_
    rintro e w' ⟨rfl, rfl⟩
    rw [HX.out]
    clear hos
    by_cases hl : t.length + u.length ≤ 4
    · have VA : Hid (vld (t ++ u) = true) := Lib.hid ((vld_iff _).2 (vld_append HT.out HU.out hl))
      have SA : Hid (acc (spd (t ++ u)) h n = acc (spd t) h n + acc (spd u) h n) := Lib.hid (by rw [← acc_plus]; exact acc_congr fun _ _ => spd_append _ _ _)
      have SB : Hid (∀ m : Nat, bt (spd t) (rnd t) ∣ m → bt (spd u) (rnd u) ∣ m → bt (spd (t ++ u)) (rnd (t ++ u)) ∣ m) := Lib.hid fun m => sum_beat HT.out HU.out hl
      have b3 := bt_pos (f := spd (t ++ u)) ((vld_iff _).1 VA.out).rnd_pos
      have b4 := bt_le (f := spd (t ++ u)) ((vld_iff _).1 VA.out).rnd_pos
      have b5 := ((vld_iff _).1 VA.out).rnd_le
      go_wp2_with fail
      refine (tSum_yes _ _ _ _ _ hI.r hI.s Y.out Y2.out hl).mono ?_
      rintro e wn ⟨oo, rfl, ho, hbn⟩
      replace hI := hI.step hbn
      clear hbn
      go_wp2_with fail
      refine (tDrift_b _ _ _ _ _ hI.r Y.out hb.1 hb.2 (by omega) rfl).mono ?_
      rintro e wn ⟨rfl, hbn⟩
      replace hI := hI.step hbn
      replace ho := ho.below hbn
      clear hbn
      go_wp2_with fail
      refine (tDrift_b _ _ _ _ _ hI.s Y2.out hb.1 hb.2 (by omega) rfl).mono ?_
      rintro e wn ⟨rfl, hbn⟩
      replace hI := hI.step hbn
      replace ho := ho.below hbn
      clear hbn
      go_wp2_with fail
      refine (tDrift_b _ _ _ _ _ ho VA.out hb.1 hb.2 (by omega) SA.out).mono ?_
      rintro e wn ⟨rfl, hbn⟩
      replace hI := hI.step hbn
      replace ho := ho.below hbn
      clear hbn
      go_wp2_with fail
      refine (tBeat_v _ _ _ hI.r Y.out).mono ?_
      rintro e wn ⟨rfl, hbn⟩
      replace hI := hI.step hbn
      replace ho := ho.below hbn
      clear hbn
      go_wp2_with fail
      refine (tBeat_v _ _ _ hI.s Y2.out).mono ?_
      rintro e wn ⟨rfl, hbn⟩
      replace hI := hI.step hbn
      replace ho := ho.below hbn
      clear hbn
      go_wp2_with fail
      refine (tBeat_v _ _ _ ho VA.out).mono ?_
      rintro e wn ⟨rfl, hbn⟩
      replace hI := hI.step hbn
      clear hbn
      clear ho
      generalize bt (spd t) (rnd t) = one at *
      generalize bt (spd u) (rnd u) = other at *
      generalize bt (spd (t ++ u)) (rnd (t ++ u)) = beat at *
      go_wp2
      go_loop [38] (fun i => ∃ y : Int, 1 ≤ y ∧ y ≤ 27720 ∧ i = .int .i64 y ∧ Hid (∃ m : Nat, y = m ∧ one ∣ m)) (fun i => (27720 - intOf i).toNat)
      case atStart => exact ⟨(one : Int), by omega, by omega, rfl, Lib.hid ⟨one, rfl, Nat.dvd_refl _⟩⟩
      case round =>
        obtain ⟨y, hm0, hm1, rfl, D⟩ := hrel
        cases hz : (y % (other : Int) != 0) with
        | true =>
          have hnx : y + one ≤ 27720 := by
            obtain ⟨m, hm, hd⟩ := D.out
            subst hm
            have hne : m ≠ 27720 := fun e => bne_iff_ne.1 hz (Int.emod_eq_zero_of_dvd (by rw [e]; exact Int.ofNat_dvd.2 A2.out))
            have hlt : m < 27720 := by omega
            have := next_le hd A1.out hlt
            omega
          have D2 : Hid (∃ m : Nat, y + one = m ∧ one ∣ m) := Lib.hid (by
            obtain ⟨m, hm, hd⟩ := D.out
            exact ⟨m + one, by omega, Nat.dvd_add hd (Nat.dvd_refl _)⟩)
          clear b4 b5 hr2 hs2 o2 o4 bn bd1 bd2
          go_wp2
          go_round
          case rel => exact ⟨y + one, by omega, by omega, by go_num, D2⟩
          case measure => simp [intOf]; omega
        | false =>
          have he : (y % (beat : Int) == 0) = true := by
            obtain ⟨m, hm, hd⟩ := D.out
            subst hm
            have h4 : other ∣ m := Int.ofNat_dvd.1 (Int.dvd_of_emod_eq_zero (bne_eq_false_iff_eq.1 hz))
            rw [beq_iff_eq]
            exact Int.emod_eq_zero_of_dvd (Int.ofNat_dvd.2 (SB.out m hd h4))
          clear b4 b5 hr2 hs2 o2 o4 bn bd1 bd2
          go_wp2_with (first
            | (go_at_call 16; refine (awake_any _).mono ?_; rintro e w1 ⟨rfl, hb1⟩))
          go_ret
          exact ⟨rfl, below_trans hI.b hb1⟩
    · have l1 := HT.out.hi
      have l2 := HU.out.hi
      have hl2 : ¬ ((t.length : Int) + (u.length : Int) ≤ 4) := by omega
      go_wp2_with fail
      refine (tSum_big _ _ _ _ _ hI.r hI.s Y.out Y2.out hl).mono ?_
      rintro e wn ⟨oo, rfl, ho, hbn⟩
      replace hI := hI.step hbn
      clear hbn ho
      go_wp2_with (first
        | (go_at_call 16; refine (awake_any _).mono ?_; rintro e w1 ⟨rfl, hb1⟩))
      go_ret
      exact ⟨rfl, below_trans hI.b hb1⟩
  | true =>
    have HX := Lib.hid hx
    have hxb := (hourB_iff _).1 hx
    clear hx
    go_wp2_with fail
    refine (rIsHour_any _ _).mono ?_
    rintro e w' ⟨rfl, rfl⟩
    rw [HX.out]
    go_wp2_with fail
    refine (tDrift_b _ _ _ _ _ hos YS.out hb.1 hb.2 (by omega) DS.out).mono ?_
    rintro e wn ⟨rfl, hbn⟩
    replace hI := hI.step hbn
    clear hbn
    go_wp2_with fail
    refine (tDrift_b _ _ _ _ _ hI.r Y.out hxb.1 hxb.2 (by omega) rfl).mono ?_
    rintro e wn ⟨rfl, hbn⟩
    replace hI := hI.step hbn
    clear hbn
    clear hos
    by_cases hl : t.length + u.length ≤ 4
    · have VA : Hid (vld (t ++ u) = true) := Lib.hid ((vld_iff _).2 (vld_append HT.out HU.out hl))
      have SA : Hid (acc (spd (t ++ u)) h n = acc (spd t) h n + acc (spd u) h n) := Lib.hid (by rw [← acc_plus]; exact acc_congr fun _ _ => spd_append _ _ _)
      have SB : Hid (∀ m : Nat, bt (spd t) (rnd t) ∣ m → bt (spd u) (rnd u) ∣ m → bt (spd (t ++ u)) (rnd (t ++ u)) ∣ m) := Lib.hid fun m => sum_beat HT.out HU.out hl
      have b3 := bt_pos (f := spd (t ++ u)) ((vld_iff _).1 VA.out).rnd_pos
      have b4 := bt_le (f := spd (t ++ u)) ((vld_iff _).1 VA.out).rnd_pos
      have b5 := ((vld_iff _).1 VA.out).rnd_le
      go_wp2_with fail
      refine (tSum_yes _ _ _ _ _ hI.r hI.s Y.out Y2.out hl).mono ?_
      rintro e wn ⟨oo, rfl, ho, hbn⟩
      replace hI := hI.step hbn
      clear hbn
      go_wp2_with fail
      refine (tDrift_b _ _ _ _ _ hI.r Y.out hb.1 hb.2 (by omega) rfl).mono ?_
      rintro e wn ⟨rfl, hbn⟩
      replace hI := hI.step hbn
      replace ho := ho.below hbn
      clear hbn
      go_wp2_with fail
      refine (tDrift_b _ _ _ _ _ hI.s Y2.out hb.1 hb.2 (by omega) rfl).mono ?_
      rintro e wn ⟨rfl, hbn⟩
      replace hI := hI.step hbn
      replace ho := ho.below hbn
      clear hbn
      go_wp2_with fail
      refine (tDrift_b _ _ _ _ _ ho VA.out hb.1 hb.2 (by omega) SA.out).mono ?_
      rintro e wn ⟨rfl, hbn⟩
      replace hI := hI.step hbn
      replace ho := ho.below hbn
      clear hbn
      go_wp2_with fail
      refine (tBeat_v _ _ _ hI.r Y.out).mono ?_
      rintro e wn ⟨rfl, hbn⟩
      replace hI := hI.step hbn
      replace ho := ho.below hbn
      clear hbn
      go_wp2_with fail
      refine (tBeat_v _ _ _ hI.s Y2.out).mono ?_
      rintro e wn ⟨rfl, hbn⟩
      replace hI := hI.step hbn
      replace ho := ho.below hbn
      clear hbn
      go_wp2_with fail
      refine (tBeat_v _ _ _ ho VA.out).mono ?_
      rintro e wn ⟨rfl, hbn⟩
      replace hI := hI.step hbn
      clear hbn
      clear ho
      generalize bt (spd t) (rnd t) = one at *
      generalize bt (spd u) (rnd u) = other at *
      generalize bt (spd (t ++ u)) (rnd (t ++ u)) = beat at *
      go_wp2
      go_loop [38] (fun i => ∃ y : Int, 1 ≤ y ∧ y ≤ 27720 ∧ i = .int .i64 y ∧ Hid (∃ m : Nat, y = m ∧ one ∣ m)) (fun i => (27720 - intOf i).toNat)
      case atStart => exact ⟨(one : Int), by omega, by omega, rfl, Lib.hid ⟨one, rfl, Nat.dvd_refl _⟩⟩
      case round =>
        obtain ⟨y, hm0, hm1, rfl, D⟩ := hrel
        cases hz : (y % (other : Int) != 0) with
        | true =>
          have hnx : y + one ≤ 27720 := by
            obtain ⟨m, hm, hd⟩ := D.out
            subst hm
            have hne : m ≠ 27720 := fun e => bne_iff_ne.1 hz (Int.emod_eq_zero_of_dvd (by rw [e]; exact Int.ofNat_dvd.2 A2.out))
            have hlt : m < 27720 := by omega
            have := next_le hd A1.out hlt
            omega
          have D2 : Hid (∃ m : Nat, y + one = m ∧ one ∣ m) := Lib.hid (by
            obtain ⟨m, hm, hd⟩ := D.out
            exact ⟨m + one, by omega, Nat.dvd_add hd (Nat.dvd_refl _)⟩)
          clear b4 b5 hr2 hs2 o2 o4 bn bd1 bd2
          go_wp2
          go_round
          case rel => exact ⟨y + one, by omega, by omega, by go_num, D2⟩
          case measure => simp [intOf]; omega
        | false =>
          have he : (y % (beat : Int) == 0) = true := by
            obtain ⟨m, hm, hd⟩ := D.out
            subst hm
            have h4 : other ∣ m := Int.ofNat_dvd.1 (Int.dvd_of_emod_eq_zero (bne_eq_false_iff_eq.1 hz))
            rw [beq_iff_eq]
            exact Int.emod_eq_zero_of_dvd (Int.ofNat_dvd.2 (SB.out m hd h4))
          clear b4 b5 hr2 hs2 o2 o4 bn bd1 bd2
          go_wp2_with (first
            | (go_at_call 16; refine (awake_any _).mono ?_; rintro e w1 ⟨rfl, hb1⟩))
          go_ret
          exact ⟨rfl, below_trans hI.b hb1⟩
    · have l1 := HT.out.hi
      have l2 := HU.out.hi
      have hl2 : ¬ ((t.length : Int) + (u.length : Int) ≤ 4) := by omega
      go_wp2_with fail
      refine (tSum_big _ _ _ _ _ hI.r hI.s Y.out Y2.out hl).mono ?_
      rintro e wn ⟨oo, rfl, ho, hbn⟩
      replace hI := hI.step hbn
      clear hbn ho
      go_wp2_with (first
        | (go_at_call 16; refine (awake_any _).mono ?_; rintro e w1 ⟨rfl, hb1⟩))
      go_ret
      exact ⟨rfl, below_trans hI.b hb1⟩

theorem TopTide_walk (v x : Value) (t u : List (List Int)) (h b n : Int) (w : World) (hv : RowsAt w v t) (hx : RowsAt w x u) (wn : (Lit.int .u16 n).wf = true) :
    Calls Try.prog 10 #[v, x, .int .i64 h, .int .i64 b, .int .u16 n] w fun e w' => e = .returned (.bool true) ∧ Below w.heap.size w w' := by
  have hn := u16_bd wn
  by_cases hg : wide t = false ∧ wide u = false ∧ vld t = true ∧ vld u = true ∧ hourB h = true ∧ hourB b = true
  · obtain ⟨n, rfl⟩ := Int.eq_ofNat_of_zero_le hn.1
    exact TopTide_main v x t u h b n w hv hx (by omega) hg.1 hg.2.1 hg.2.2.1 hg.2.2.2.1 hg.2.2.2.2.1 hg.2.2.2.2.2
  · exact TopTide_early v x t u h b n w hv hx hg

end Go.Proofs.Ytflhpnhehaokpaa
