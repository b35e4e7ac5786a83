/- The law TankDoes. -/
import Derived.Test.YtikcpfpeoofppaaT
import Derived.Test.YtikcpfpeoofppaaH
namespace Go.Proofs.Ytikcpfpeoofppaa
open Go.RowKit

set_option maxHeartbeats 400000 in
theorem long_any (v y : Value) (t l : List Int) (w : World) (hv : IntsAt w v t) (hy : IntsAt w y l) :
    Calls Try.prog 21 #[v, y] w fun e w' => e = .returned (.bool (decide (20 < t.length) || decide (20 < l.length))) ∧ w = w' := by
  obtain ⟨_, _, rfl, _⟩ := hv
  obtain ⟨_, _, rfl, _⟩ := hy
  by_cases h1 : 20 < t.length
  · have E := Lib.hid (show true = (decide (20 < t.length) || decide (20 < l.length)) by rw [decide_eq_true h1]; rfl)
    have h2 : (20 : Int) < (t.length : Int) := by omega
    clear h1
    go_enter Try.func21, Try.ntmps21
    go_wp2
    go_ret
    exact ⟨ret_b E.out, rfl⟩
  · have h2 : ¬ (20 : Int) < (t.length : Int) := by omega
    have E := Lib.hid (show decide ((20 : Int) < (l.length : Int)) = (decide (20 < t.length) || decide (20 < l.length)) by
      rw [decide_eq_false h1, Bool.false_or, Bool.eq_iff_iff, decide_eq_true_iff, decide_eq_true_iff]; omega)
    clear h1
    go_enter Try.func21, Try.ntmps21
    go_wp2
    go_ret
    exact ⟨ret_b E.out, rfl⟩

set_option maxHeartbeats 1000000 in
theorem sameInts_any (v y : Value) (l : List Int) (w : World) (hv : IntsAt w v l) (hy : IntsAt w y l) :
    Calls Try.prog 40 #[v, y] w fun e w' => e = .returned (.bool true) ∧ Below w.heap.size w w' := by
  obtain ⟨a, cap, rfl, hl, hq⟩ := hv
  obtain ⟨a2, cap2, rfl, hl2, hq2⟩ := hy
  go_enter Try.func40, Try.ntmps40
  go_wp2
  go_loopw [5] (fun i wr => ∃ k : Nat, k ≤ l.length ∧ i = .int .i64 k ∧ Below w.heap.size w wr) (fun i _ => l.length - (intOf i).toNat)
  case atStart => exact ⟨0, Nat.zero_le _, rfl, Below.refl _ _⟩
  case round =>
    obtain ⟨k, hk, rfl, hbel⟩ := hrel
    by_cases hlt : k < l.length
    · obtain ⟨b, off, rfl, hc⟩ := hq (by omega)
      obtain ⟨b2, off2, rfl, hc2⟩ := hq2 (by omega)
      have x1 := keep_cell hbel (hc k hlt)
      have x2 := keep_cell hbel (hc2 k hlt)
      clear hc hc2 hq hq2
      generalize l.getD k 0 = y at *
      go_wp2
      refine wp_region_quiet_lit (by kernel_rfl) (by kernel_rfl) ?_
      repeat (any_goals (first | go_big_quiet_step (fail) | quiet_step (fail)))
      all_goals (refine wpQuiet_nil ?_; intro _ hw'; obtain ⟨nq, hw''⟩ := hw'; subst hw'')
      all_goals go_wp2
      go_roundw
      case rel => exact ⟨k + 1, by omega, by go_num, below_drewN hbel _⟩
      case measure => simp [intOf]; omega
    · obtain rfl : k = l.length := by omega
      go_wp2
      go_ret
      exact ⟨rfl, hbel⟩

set_option maxHeartbeats 1000000 in
theorem TankDoes_walk (v y : Value) (t l : List Int) (d : Deed) (w : World) (hv : IntsAt w v t) (hy : IntsAt w y l) :
    Calls Try.prog 8 #[v, y, deedV d] w fun e w' => e = .returned (.bool true) ∧ Below w.heap.size w w' := by
  obtain ⟨d1, d2, d3⟩ := d
  have hB1 := (Below.refl w.heap.size w).alloc (Nat.le_refl _) (.cells #[.int .i64 d1, .int .i64 d2, .int .i64 d3] 43)
  have V := Lib.hid hv
  have Y := Lib.hid hy
  have hc0 : (w.alloc (.cells #[.int .i64 d1, .int .i64 d2, .int .i64 d3] 43)).cell? ⟨w.heap.size, 0, none⟩ = some (.int .i64 d1) := by simp
  have hc1 : (w.alloc (.cells #[.int .i64 d1, .int .i64 d2, .int .i64 d3] 43)).cell? ⟨w.heap.size, 1, none⟩ = some (.int .i64 d2) := by simp
  have hc2 : (w.alloc (.cells #[.int .i64 d1, .int .i64 d2, .int .i64 d3] 43)).cell? ⟨w.heap.size, 2, none⟩ = some (.int .i64 d3) := by simp
  have L := Lib.hid (long_any v y t l _ (hv.below hB1) (hy.below hB1))
  have S := Lib.hid sane_any
  cases hlong : (decide (20 < t.length) || decide (20 < l.length)) with
  | true =>
    rw [hlong] at L
    clear hlong hc0 hc1 hc2
    obtain ⟨_, _, rfl, _⟩ := hv
    obtain ⟨_, _, rfl, _⟩ := hy
    unfold deedV
    go_enter Try.func8, Try.ntmps8
    go_wp2_with (first | (go_at_call 21; refine L.out.mono ?_; rintro e w' ⟨rfl, rfl⟩) | (go_at_call 20; refine (S.out _).mono ?_; rintro e w' ⟨rfl, hb⟩))
    go_ret
    exact ⟨rfl, hB1.trans (hb.mono hB1.size)⟩
  | false =>
    rw [hlong] at L
    clear hlong
    obtain ⟨_, _, rfl, _⟩ := hv
    obtain ⟨_, _, rfl, _⟩ := hy
    have T1 := Lib.hid (tDoesP_any _ _ t l (d1, d2, d3) _ (V.out.below hB1) (Y.out.below hB1))
    have T2 := Lib.hid (fun w1 hb => rDoes_any _ _ t l (d1, d2, d3) w1 (V.out.below hb) (Y.out.below hb))
    simp only [deedV] at T1 T2 ⊢
    generalize hre : runE t l [(d1, d2, d3)] = re at *
    go_enter Try.func8, Try.ntmps8
    go_wp2_with (first | (go_at_call 21; refine L.out.mono ?_; rintro e w' ⟨rfl, rfl⟩))
    refine T1.out.mono ?_
    rintro e w1 ⟨ov, rfl, hov, hb1⟩
    have hb2 : Below w.heap.size w w1 := hB1.trans (hb1.mono hB1.size)
    have k0 := keep_cell hb1 hc0
    have k1 := keep_cell hb1 hc1
    have k2 := keep_cell hb1 hc2
    have O1 := Lib.hid hov
    clear hov hc0 hc1 hc2 T1
    rw [hre]
    go_wp2_with fail
    refine (T2.out w1 hb2).mono ?_
    rintro e w2 ⟨ov2, rfl, hov2, hb3⟩
    have O2 := Lib.hid hov2
    have hb4 : Below w.heap.size w w2 := hb2.trans (hb3.mono hb2.size)
    have SM := Lib.hid (sameInts_any ov ov2 _ w2 (O1.out.below hb3) O2.out)
    have VA := Lib.hid (valid_any _ t w2 (V.out.below hb4))
    have VB := Lib.hid (rValid_any _ t w2 (V.out.below hb4))
    clear hov2 T2 k0 k1 k2
    rw [hre]
    go_wp2_with (first | (go_at_call 38; refine VA.out.mono ?_; rintro e w' ⟨rfl, rfl⟩) | (go_at_call 39; refine VB.out.mono ?_; rintro e w' ⟨rfl, rfl⟩) | (go_at_call 40; refine SM.out.mono ?_; rintro e w3 ⟨rfl, hb5⟩) | (go_at_call 20; refine (S.out _).mono ?_; rintro e w4 ⟨rfl, hb6⟩))
    go_ret
    exact ⟨rfl, (hb4.trans (hb5.mono hb4.size)).trans (hb6.mono (hb4.trans (hb5.mono hb4.size)).size)⟩

end Go.Proofs.Ytikcpfpeoofppaa
