/- Contracts: the program's Speed, Drift, Round, Net, Beat. -/
import Derived.Test.YtflhpnhehaokpaaC
import Derived.Test.YtflhpnhehaokpaaD
namespace Go.Proofs.Ytflhpnhehaokpaa
open Go.RowKit

/-- A number that is an hour; a number of hours. -/
def hourB (n : Int) : Bool := betw (-1000000) n 1000000
def spanB (n : Int) : Bool := betw 0 n 1000000

theorem hourB_iff (n : Int) : hourB n = true ↔ -1000000 ≤ n ∧ n ≤ 1000000 := betw_iff _ _ _
theorem spanB_iff (n : Int) : spanB n = true ↔ 0 ≤ n ∧ n ≤ 1000000 := betw_iff _ _ _

set_option maxHeartbeats 400000 in
theorem isHour_any (n : Int) (w : World) :
    Calls Try.prog 50 #[.int .i64 n] w fun e w' => e = .returned (.bool (hourB n)) ∧ w = w' := by
  unfold hourB
  go_enter Try.func50, Try.ntmps50
  go_wp2_with (go_at_call 54; refine (between_any _ _ _ _).mono ?_; rintro e w' ⟨rfl, rfl⟩)
  go_ret
  exact ⟨rfl, rfl⟩

theorem speed1_any (v : Value) (t : List (List Int)) (h : Int) (B : Nat) (w : World) (hv : RowsAt w v t) (ht : Vld t) (hcell : w.cell? ⟨B, 0, none⟩ = some (.int .i64 h)) :
    Calls Try.prog 51 #[v, .pointer (some ⟨B, 0, none⟩)] w fun e w' => e = .returned (.int .i64 (spd t h)) ∧ w = w' := by
  go_enter Try.func51, Try.ntmps51
  go_wp2_with (go_at_call 52; refine (speed_any _ _ _ _ hv ht).mono ?_; rintro e w' ⟨rfl, rfl⟩)
  go_ret
  exact ⟨rfl, rfl⟩

theorem calls_below {P : Program} {f : Nat} {args : Array Value} {w : World} {r : Ending} (h : Calls P f args w fun e w' => e = r ∧ w = w') : Calls P f args w fun e w' => e = r ∧ Below w.heap.size w w' :=
  h.mono fun _ _ ⟨he, hw⟩ => ⟨he, by rw [← hw]; exact Below.refl _ _⟩

set_option maxHeartbeats 400000 in
theorem tSpeed_any (v : Value) (t : List (List Int)) (h : Int) (w : World) (hv : RowsAt w v t) :
    Calls Try.prog 17 #[v, .int .i64 h] w fun e w' => e = .returned (.tuple #[.int .i64 (qi t (hourB h) (spd t h)), .int .i64 (qe t (hourB h))]) ∧ Below w.heap.size w w' := by
  have hal : Below w.heap.size w (w.alloc (.cells #[.int .i64 h] 3)) := (Below.refl _ w).alloc (Nat.le_refl _) _
  have hv1 := hv.below hal
  have hc1 : (w.alloc (.cells #[.int .i64 h] 3)).cell? ⟨w.heap.size, 0, none⟩ = some (.int .i64 h) := by simp
  have HA := askedInt_any v t (hourB h) 51 #[.pointer (some ⟨w.heap.size, 0, none⟩)] (spd t h) _ hv1 (enters_of Try.func51 (by kernel_rfl) rfl)
    (fun hy _ W tv hr hb => calls_below (speed1_any tv t h w.heap.size W hr ((vld_iff t).1 hy) (keep_cell hb hc1)))
  have H := Lib.hid HA
  clear HA hc1 hv1 hv
  go_enter Try.func17, Try.ntmps17
  go_wp2_with (first | (go_at_call 50; refine (isHour_any _ _).mono ?_; rintro e w' ⟨rfl, rfl⟩) | (go_at_call 49; refine H.out.mono ?_; rintro e w1 ⟨rfl, hb1⟩))
  go_ret2
  exact ⟨rfl, below_trans hal hb1⟩

theorem drift1_any (v : Value) (t : List (List Int)) (h n : Int) (B C : Nat) (w : World) (hv : RowsAt w v t) (ht : Vld t) (hcell : w.cell? ⟨B, 0, none⟩ = some (.int .i64 h)) (hcell2 : w.cell? ⟨C, 0, none⟩ = some (.int .i64 n))
    (hh : hourB h = true) (hn : spanB n = true) :
    Calls Try.prog 55 #[v, .pointer (some ⟨B, 0, none⟩), .pointer (some ⟨C, 0, none⟩)] w fun e w' => e = .returned (.int .i64 (acc (spd t) h n.toNat)) ∧ Below w.heap.size w w' := by
  have h1 := (hourB_iff h).1 hh
  have h2 := (spanB_iff n).1 hn
  obtain ⟨n, rfl⟩ := Int.eq_ofNat_of_zero_le h2.1
  have h3 : h ≤ 1000000 ∧ -1000000 ≤ h := ⟨h1.2, h1.1⟩
  clear hh hn h1
  go_enter Try.func55, Try.ntmps55
  go_wp2_with (go_at_call 56; refine (drift_any _ _ _ _ _ hv ht (by omega) (by omega) (by omega)).mono ?_; rintro e w1 ⟨rfl, hb1⟩)
  go_ret
  exact ⟨rfl, hb1⟩

set_option maxHeartbeats 400000 in
theorem tDrift_any (v : Value) (t : List (List Int)) (h n : Int) (w : World) (hv : RowsAt w v t) :
    Calls Try.prog 19 #[v, .int .i64 h, .int .i64 n] w fun e w' => e = .returned (.tuple #[.int .i64 (qi t (hourB h && spanB n) (acc (spd t) h n.toNat)), .int .i64 (qe t (hourB h && spanB n))]) ∧ Below w.heap.size w w' := by
  have hal : Below w.heap.size w ((w.alloc (.cells #[.int .i64 h] 3)).alloc (.cells #[.int .i64 n] 3)) := ((Below.refl _ w).alloc (Nat.le_refl _) _).alloc (by simp) _
  have hv1 := hv.below hal
  have hc1 : ((w.alloc (.cells #[.int .i64 h] 3)).alloc (.cells #[.int .i64 n] 3)).cell? ⟨w.heap.size, 0, none⟩ = some (.int .i64 h) := keep_cell ((Below.refl _ _).alloc (Nat.le_refl _) _) (by simp)
  have hc2 : ((w.alloc (.cells #[.int .i64 h] 3)).alloc (.cells #[.int .i64 n] 3)).cell? ⟨w.heap.size + 1, 0, none⟩ = some (.int .i64 n) := by
    have h1 : (w.alloc (.cells #[.int .i64 h] 3)).heap.size = w.heap.size + 1 := by simp
    rw [← h1]
    simp
  have HA := askedInt_any v t (hourB h && spanB n) 55 #[.pointer (some ⟨w.heap.size, 0, none⟩), .pointer (some ⟨w.heap.size + 1, 0, none⟩)] (acc (spd t) h n.toNat) _ hv1 (enters_of Try.func55 (by kernel_rfl) rfl)
    (fun hy hr W tv hr' hb => drift1_any tv t h n w.heap.size (w.heap.size + 1) W hr' ((vld_iff t).1 hy) (keep_cell hb hc1) (keep_cell hb hc2) (by simp at hr; exact hr.1) (by simp at hr; exact hr.2))
  have H := Lib.hid HA
  clear HA hc1 hc2 hv1 hv
  unfold spanB at *
  cases hh : hourB h with
  | true =>
    rw [hh] at H
    have HH := Lib.hid hh
    clear hh
    go_enter Try.func19, Try.ntmps19
    go_wp2_with (first | (go_at_call 50; refine (isHour_any _ _).mono ?_; rintro e w' ⟨rfl, rfl⟩; rw [HH.out]) | (go_at_call 54; refine (between_any _ _ _ _).mono ?_; rintro e w' ⟨rfl, rfl⟩) | (go_at_call 49; refine H.out.mono ?_; rintro e w1 ⟨rfl, hb1⟩))
    go_ret2
    exact ⟨rfl, below_trans hal hb1⟩
  | false =>
    rw [hh] at H
    have HH := Lib.hid hh
    clear hh
    go_enter Try.func19, Try.ntmps19
    go_wp2_with (first | (go_at_call 50; refine (isHour_any _ _).mono ?_; rintro e w' ⟨rfl, rfl⟩; rw [HH.out]) | (go_at_call 54; refine (between_any _ _ _ _).mono ?_; rintro e w' ⟨rfl, rfl⟩) | (go_at_call 49; refine H.out.mono ?_; rintro e w1 ⟨rfl, hb1⟩))
    go_ret2
    exact ⟨rfl, below_trans hal hb1⟩

set_option maxHeartbeats 400000 in
theorem tRound_any (v : Value) (t : List (List Int)) (w : World) (hv : RowsAt w v t) :
    Calls Try.prog 24 #[v] w fun e w' => e = .returned (.tuple #[.int .i64 (qi t true (rnd t : Nat)), .int .i64 (qe t true)]) ∧ Below w.heap.size w w' := by
  have HA := askedInt_any v t true 61 #[] (rnd t : Nat) _ hv (enters_of Try.func61 (by kernel_rfl) rfl)
    (fun hy _ W tv hr hb => round_any tv t W hr ((vld_iff t).1 hy))
  have H := Lib.hid HA
  clear HA hv
  go_enter Try.func24, Try.ntmps24
  go_wp2_with (go_at_call 49; refine H.out.mono ?_; rintro e w1 ⟨rfl, hb1⟩)
  go_ret2
  exact ⟨rfl, hb1⟩

set_option maxHeartbeats 400000 in
theorem net1_any (v : Value) (t : List (List Int)) (w : World) (hv : RowsAt w v t) (ht : Vld t) :
    Calls Try.prog 62 #[v] w fun e w' => e = .returned (.int .i64 (acc (spd t) 0 (rnd t))) ∧ Below w.heap.size w w' := by
  have hr := ht.rnd_pos
  have hr2 := ht.rnd_le
  go_enter Try.func62, Try.ntmps62
  go_wp2_with (first | (go_at_call 61; refine (round_any _ _ _ hv ht).mono ?_; rintro e w1 ⟨rfl, hb1⟩) | (go_at_call 63; refine (some_any _ _ _ _ _ (hv.below hb1) ht (by omega) (by omega) (by omega)).mono ?_; rintro e w' ⟨rfl, rfl⟩))
  go_ret
  exact ⟨rfl, hb1⟩

set_option maxHeartbeats 400000 in
theorem tNet_any (v : Value) (t : List (List Int)) (w : World) (hv : RowsAt w v t) :
    Calls Try.prog 25 #[v] w fun e w' => e = .returned (.tuple #[.int .i64 (qi t true (acc (spd t) 0 (rnd t))), .int .i64 (qe t true)]) ∧ Below w.heap.size w w' := by
  have HA := askedInt_any v t true 62 #[] (acc (spd t) 0 (rnd t)) _ hv (enters_of Try.func62 (by kernel_rfl) rfl)
    (fun hy _ W tv hr hb => net1_any tv t W hr ((vld_iff t).1 hy))
  have H := Lib.hid HA
  clear HA hv
  go_enter Try.func25, Try.ntmps25
  go_wp2_with (go_at_call 49; refine H.out.mono ?_; rintro e w1 ⟨rfl, hb1⟩)
  go_ret2
  exact ⟨rfl, hb1⟩

set_option maxHeartbeats 400000 in
theorem tBeat_any (v : Value) (t : List (List Int)) (w : World) (hv : RowsAt w v t) :
    Calls Try.prog 26 #[v] w fun e w' => e = .returned (.tuple #[.int .i64 (qi t true (bt (spd t) (rnd t) : Nat)), .int .i64 (qe t true)]) ∧ Below w.heap.size w w' := by
  have HA := askedInt_any v t true 64 #[] (bt (spd t) (rnd t) : Nat) _ hv (enters_of Try.func64 (by kernel_rfl) rfl)
    (fun hy _ W tv hr hb => beat_any tv t W hr ((vld_iff t).1 hy))
  have H := Lib.hid HA
  clear HA hv
  go_enter Try.func26, Try.ntmps26
  go_wp2_with (go_at_call 49; refine H.out.mono ?_; rintro e w1 ⟨rfl, hb1⟩)
  go_ret2
  exact ⟨rfl, hb1⟩

end Go.Proofs.Ytflhpnhehaokpaa
