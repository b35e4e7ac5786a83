/- Contracts: the reference's Valid, IsHour, speed, drift, round, far, and Speed, Drift, Round, Net. -/
import Derived.Test.YtflhpnhehaokpaaE
namespace Go.Proofs.Ytflhpnhehaokpaa
open Go.RowKit

set_option maxHeartbeats 400000 in
theorem rIsHour_any (n : Int) (w : World) :
    Calls Try.prog 23 #[.int .i64 n] w fun e w' => e = .returned (.bool (hourB n)) ∧ w = w' := by
  have E : hourB n = (decide (-1000000 ≤ n) && decide (n ≤ 1000000)) := rfl
  by_cases h1 : -1000000 ≤ n
  · by_cases h2 : n ≤ 1000000
    · rw [E, decide_eq_true h1, decide_eq_true h2]
      clear E
      go_enter Try.func23, Try.ntmps23
      go_wp2
      go_ret
      exact ⟨rfl, rfl⟩
    · rw [E, decide_eq_true h1, decide_eq_false h2]
      clear E
      go_enter Try.func23, Try.ntmps23
      go_wp2
      go_ret
      exact ⟨rfl, rfl⟩
  · rw [E, decide_eq_false h1]
    clear E
    go_enter Try.func23, Try.ntmps23
    go_wp2
    go_ret
    exact ⟨rfl, rfl⟩

theorem vld_bad {t : List (List Int)} {k : Nat} (hk : k < t.length) (h : ¬ (1 ≤ (t.getD k []).length ∧ (t.getD k []).length ≤ 12 ∧ ∀ n ∈ t.getD k [], -100 ≤ n ∧ n ≤ 100)) : vld t = false := by
  cases hv : vld t with
  | false => rfl
  | true => exact absurd (((vld_iff t).1 hv).wave _ (getD_mem hk)) h

theorem vld_good {t : List (List Int)} (h : ∀ j, j < t.length → wvld (t.getD j []) = true) : vld t = (decide (1 ≤ t.length) && decide (t.length ≤ 4)) := by
  unfold vld
  rw [List.all_eq_true.2 (fun x hx => by
    obtain ⟨i, hi, rfl⟩ := List.getElem_of_mem hx
    have := h i hi
    rwa [List.getD_eq_getElem?_getD, List.getElem?_eq_getElem hi] at this), Bool.and_true]

theorem getD_mem' {l : List Int} {k : Nat} (hk : k < l.length) : l.getD k 0 ∈ l := by
  rw [List.getD_eq_getElem?_getD, List.getElem?_eq_getElem hk]; simp

theorem wave_ok {l : List Int} (h1 : 1 ≤ l.length) (h2 : l.length ≤ 12) (h : ∀ j, j < l.length → -100 ≤ l.getD j 0 ∧ l.getD j 0 ≤ 100) : wvld l = true :=
  (wvld_iff l).2 ⟨h1, h2, fun n hn => by
    obtain ⟨i, hi, rfl⟩ := List.getElem_of_mem hn
    have := h i hi
    rwa [List.getD_eq_getElem?_getD, List.getElem?_eq_getElem hi] at this⟩

set_option maxHeartbeats 1000000 in
theorem rValid_any (v : Value) (t : List (List Int)) (w : World) (hv : RowsAt w v t) :
    Calls Try.prog 22 #[v] w fun e w' => e = .returned (.bool (vld t)) ∧ w = w' := by
  obtain ⟨a, cap, rfl, hl, hq⟩ := hv
  go_enter Try.func22, Try.ntmps22
  go_wp2
  go_loop [9] (fun i => ∃ k : Nat, k ≤ t.length ∧ i = .int .i64 k ∧ Hid (∀ j, j < k → wvld (t.getD j []) = true)) (fun i => t.length - (intOf i).toNat)
  case atStart => exact ⟨0, Nat.zero_le _, rfl, fun j hj => by omega⟩
  case round =>
    obtain ⟨k, hk, rfl, H⟩ := hrel
    by_cases hlt : k < t.length
    · obtain ⟨b, off, rfl, hc⟩ := hq (by omega)
      obtain ⟨x, hx, hi⟩ := hc k hlt
      clear hc hq
      have B := Lib.hid (fun h => vld_bad hlt h)
      generalize hlk : t.getD k [] = lk at *
      have LK := Lib.hid hlk
      clear hlk
      obtain ⟨ra, rc, rfl, hrl, hrq⟩ := hi
      by_cases h1 : 1 ≤ lk.length
      · by_cases h2 : lk.length ≤ 12
        · go_wp2
          go_loop [23] (fun i => ∃ m : Nat, m ≤ lk.length ∧ i = .int .i64 m ∧ Hid (∀ j, j < m → -100 ≤ lk.getD j 0 ∧ lk.getD j 0 ≤ 100)) (fun i => lk.length - (intOf i).toNat)
          case atStart => exact ⟨0, Nat.zero_le _, rfl, fun j hj => by omega⟩
          case round =>
            obtain ⟨m, hm, rfl, HM⟩ := hrel
            by_cases hlt2 : m < lk.length
            · obtain ⟨rb, ro, rfl, hrc⟩ := hrq (by omega)
              have hcell := hrc m hlt2
              clear hrc hrq
              have MM := Lib.hid (getD_mem' hlt2)
              generalize hy : lk.getD m 0 = y at *
              have Y := Lib.hid hy
              clear hy
              by_cases h3 : y < -100
              · go_wp2
                go_ret
                exact ⟨by rw [B.out (fun h => by have := h.2.2 y MM.out; omega)]; rfl, rfl⟩
              · by_cases h4 : 100 < y
                · go_wp2
                  go_ret
                  exact ⟨by rw [B.out (fun h => by have := h.2.2 y MM.out; omega)]; rfl, rfl⟩
                · go_wp2
                  go_round
                  case rel => exact ⟨m + 1, by omega, by go_num, fun j hj => by
                    rcases Nat.lt_succ_iff_lt_or_eq.1 hj with h | rfl
                    · exact HM.out j h
                    · rw [Y.out]; omega⟩
                  case measure => simp [intOf]; omega
            · have e : m = lk.length := by omega
              subst e
              have W := Lib.hid (wave_ok h1 h2 HM.out)
              go_wp2
              go_round
              case rel => exact ⟨k + 1, by omega, by go_num, fun j hj => by
                rcases Nat.lt_succ_iff_lt_or_eq.1 hj with h | rfl
                · exact H.out j h
                · rw [LK.out]; exact W.out⟩
              case measure => simp [intOf]; omega
        · go_wp2
          go_ret
          exact ⟨by rw [B.out (fun h => h2 h.2.1)]; rfl, rfl⟩
      · go_wp2
        go_ret
        exact ⟨by rw [B.out (fun h => h1 h.1)]; rfl, rfl⟩
    · have e : k = t.length := by omega
      subst e
      have G := Lib.hid (vld_good H.out)
      by_cases h1 : 1 ≤ t.length
      · by_cases h2 : t.length ≤ 4
        · rw [decide_eq_true h1, decide_eq_true h2] at G
          go_wp2
          go_ret
          exact ⟨ret_b (by rw [G.out]; first | rfl | (simp; omega)), rfl⟩
        · rw [decide_eq_true h1, decide_eq_false h2] at G
          go_wp2
          go_ret
          exact ⟨ret_b (by rw [G.out]; first | rfl | (simp; omega)), rfl⟩
      · rw [decide_eq_false h1] at G
        go_wp2
        go_ret
        exact ⟨ret_b (by rw [G.out]; first | rfl | (simp; omega)), rfl⟩

theorem mod_twice (h : Int) (n : Nat) (h0 : 0 < n) : (h.tmod n + n).tmod n = h % n := by
  have h1 := tmod_bd h n h0
  rw [Int.tmod_eq_emod_of_nonneg (by omega)]
  by_cases hn : h.tmod n < 0
  · rw [emod_neg h n h0 hn]; exact Int.emod_eq_of_lt (by omega) (by omega)
  · rw [emod_pos' h n h0 (by omega), Int.add_emod_right]; exact Int.emod_eq_of_lt (by omega) (by omega)

set_option maxHeartbeats 400000 in
theorem modulo_any (h : Int) (n : Nat) (w : World) (h0 : 0 < n) (hn : n ≤ 1000000) :
    Calls Try.prog 82 #[.int .i64 h, .int .i64 n] w fun e w' => e = .returned (.int .i64 (h % (n : Int))) ∧ w = w' := by
  have hb := tmod_bd h n h0
  have E := mod_twice h n h0
  rw [Int.tmod_eq_emod_of_nonneg (by omega)] at E
  have EE := Lib.hid E
  clear E
  go_enter Try.func82, Try.ntmps82
  go_wp2
  go_ret
  exact ⟨ret_i EE.out, rfl⟩

set_option maxHeartbeats 400000 in
theorem rspeed_any (v : Value) (t : List (List Int)) (h : Int) (w : World) (hv : RowsAt w v t) (ht : Vld t) :
    Calls Try.prog 53 #[v, .int .i64 h] w fun e w' => e = .returned (.int .i64 (spd t h)) ∧ w = w' := by
  obtain ⟨a, cap, rfl, hl, hq⟩ := hv
  have hlo := ht.lo
  have hhi := ht.hi
  obtain ⟨b, off, rfl, hc⟩ := hq (by omega)
  clear hq
  go_enter Try.func53, Try.ntmps53
  go_wp2
  go_loop [5, 10] (fun s i => ∃ k : Nat, k ≤ t.length ∧ i = .int .i64 k ∧ s = .int .i64 (spd (t.take k) h)) (fun _ i => t.length - (intOf i).toNat)
  case atStart => exact ⟨0, Nat.zero_le _, rfl, rfl⟩
  case round =>
    obtain ⟨k, hk, rfl, rfl⟩ := hrel
    by_cases hlt : k < t.length
    · obtain ⟨x, hx, hi⟩ := hc k hlt
      have hw := ht.wave _ (getD_mem hlt)
      have E := Lib.hid (spd_snoc t k h hlt)
      have b1 := spd_bound (t.take k) (fun l hl => (ht.wave l (List.mem_of_mem_take hl)).2.2) h
      have b2 := wat_bound hw.2.2 h
      have hlen : (t.take k).length ≤ k := List.length_take_le _ _
      have hw1 := hw.1
      have hw2 := hw.2.1
      generalize t.getD k [] = lk at *
      generalize spd (t.take k) h = s at *
      obtain ⟨ra, rc, rfl, hrl, hrq⟩ := hi
      obtain ⟨rb, ro, rfl, hrc⟩ := hrq (by omega)
      have hm1 := Int.emod_nonneg h (show (lk.length : Int) ≠ 0 by omega)
      have hm2 := Int.emod_lt_of_pos h (show (0 : Int) < lk.length by omega)
      have hcell := hrc (h % (lk.length : Int)).toNat (by omega)
      have WE := Lib.hid (show wat lk h = lk.getD (h % (lk.length : Int)).toNat 0 from rfl)
      rw [← WE.out] at hcell
      clear hc hw hrq hrc WE
      go_wp2_with (go_at_call 82; refine (modulo_any _ _ _ (by omega) (by omega)).mono ?_; rintro e w' ⟨rfl, rfl⟩)
      go_round
      case rel => exact ⟨k + 1, by omega, by go_num, by rw [E.out]⟩
      case measure => simp [intOf]; omega
    · have e : k = t.length := by omega
      subst e
      go_wp2
      go_ret
      exact ⟨ret_i (by simp), rfl⟩

set_option maxHeartbeats 400000 in
theorem rdrift_any (v : Value) (t : List (List Int)) (a : Int) (n : Nat) (w : World) (hv : RowsAt w v t) (ht : Vld t) (ha1 : -10000000 ≤ a) (ha2 : a ≤ 10000000) (hn : n ≤ 10000000) :
    Calls Try.prog 73 #[v, .int .i64 a, .int .i64 n] w fun e w' => e = .returned (.int .i64 (acc (spd t) a n)) ∧ w = w' := by
  go_enter Try.func73, Try.ntmps73
  go_wp2
  go_loop [7, 10] (fun s i => ∃ k : Nat, k ≤ n ∧ i = .int .i64 k ∧ s = .int .i64 (acc (spd t) a k)) (fun _ i => n - (intOf i).toNat)
  case atStart => exact ⟨0, Nat.zero_le _, rfl, rfl⟩
  case round =>
    obtain ⟨k, hk, rfl, rfl⟩ := hrel
    by_cases hlt : k < n
    · have b1 := some_bd ht a k
      have b2 := ht.bd (a + k)
      have E := Lib.hid (show acc (spd t) a (k + 1) = acc (spd t) a k + spd t (a + k) from rfl)
      generalize acc (spd t) a k = s at *
      go_wp2_with (go_at_call 53; refine (rspeed_any _ _ _ _ hv ht).mono ?_; rintro e w' ⟨rfl, rfl⟩)
      go_round
      case rel => exact ⟨k + 1, by omega, by go_num, by rw [E.out]⟩
      case measure => simp [intOf]; omega
    · have e : k = n := by omega
      subst e
      go_wp2
      go_ret
      exact ⟨rfl, rfl⟩

/-- The multiples of n that l does not divide, up to the least common multiple. -/
theorem lcm_mul_lt {n l m q : Nat} (hm : m = q * n) (hle : m ≤ Nat.lcm n l) (hmod : m % l ≠ 0) : m + n ≤ Nat.lcm n l := by
  have h1 : n ∣ Nat.lcm n l := Nat.dvd_lcm_left n l
  obtain ⟨c, hc⟩ := h1
  have hne : m ≠ Nat.lcm n l := fun e => hmod (by rw [e]; exact Nat.mod_eq_zero_of_dvd (Nat.dvd_lcm_right n l))
  have hlt : q * n < c * n := by rw [← hm, Nat.mul_comm c n, ← hc]; omega
  have hq : q < c := Nat.lt_of_mul_lt_mul_right hlt
  have : (q + 1) * n ≤ c * n := Nat.mul_le_mul_right n hq
  rw [hc, Nat.mul_comm n c, hm]
  rw [Nat.add_mul] at this
  omega

theorem lcm_mul_eq {n l m q : Nat} (hm : m = q * n) (hm1 : 1 ≤ q) (hn : 1 ≤ n) (hle : m ≤ Nat.lcm n l) (hmod : m % l = 0) : m = Nat.lcm n l := by
  have h1 : Nat.lcm n l ∣ m := Nat.lcm_dvd (by rw [hm]; exact Nat.dvd_mul_left n q) (Nat.dvd_of_mod_eq_zero hmod)
  have h2 : 0 < m := by rw [hm]; exact Nat.mul_pos hm1 hn
  exact Nat.le_antisymm hle (Nat.le_of_dvd h2 h1)

set_option maxHeartbeats 1000000 in
theorem rround_any (v : Value) (t : List (List Int)) (w : World) (hv : RowsAt w v t) (ht : Vld t) :
    Calls Try.prog 72 #[v] w fun e w' => e = .returned (.int .i64 (rnd t : Nat)) ∧ w = w' := by
  obtain ⟨a, cap, rfl, hl, hq⟩ := id hv
  have hlo := ht.lo
  have hhi := ht.hi
  obtain ⟨b, off, rfl, hc⟩ := hq (by omega)
  clear hq hv
  go_enter Try.func72, Try.ntmps72
  go_wp2
  go_loop [3, 9] (fun s i => ∃ k : Nat, k ≤ t.length ∧ i = .int .i64 k ∧ s = .int .i64 (rndTo t k : Nat)) (fun _ i => t.length - (intOf i).toNat)
  case atStart => exact ⟨0, Nat.zero_le _, rfl, rfl⟩
  case round =>
    obtain ⟨k, hk, rfl, rfl⟩ := hrel
    have hbd := rndTo_bd ht k
    by_cases hlt : k < t.length
    · obtain ⟨x, hx, hi⟩ := hc k hlt
      have hw := ht.wave _ (getD_mem hlt)
      have hw1 := hw.1
      have hw2 := hw.2.1
      have hbd2 := (rndTo_bd ht (k + 1)).2
      have E' := rndTo_succ t k hlt
      rw [E'] at hbd2
      have E := Lib.hid E'
      clear E'
      generalize t.getD k [] = lk at *
      generalize rndTo t k = r at *
      obtain ⟨xa, xc, rfl, hxr⟩ := id hi
      clear hxr hi hw hc
      have hr0 := Nat.le_of_dvd (Nat.lcm_pos hbd.1 hw1) (Nat.dvd_lcm_left r lk.length)
      generalize hL : Nat.lcm r lk.length = L at *
      have HL := Lib.hid hL
      clear hL
      go_wp2
      go_loop [6] (fun i => ∃ m q : Nat, i = .int .i64 m ∧ m ≤ L ∧ Hid (m = q * r) ∧ 1 ≤ q) (fun i => L - (intOf i).toNat)
      case atStart => exact ⟨r, 1, rfl, hr0, (Nat.one_mul r).symm, Nat.le_refl _⟩
      case round =>
        obtain ⟨m, q, rfl, hmL, Q, hq⟩ := hrel
        have hlen0 : ((lk.length : Int) == 0) = false := beq_eq_false_iff_ne.2 (by omega)
        by_cases hd : m % lk.length = 0
        · have D : ((m : Int) % (lk.length : Int) != 0) = false := by rw [← Int.natCast_emod, hd]; rfl
          have EQ := Lib.hid (lcm_mul_eq Q.out hq hbd.1 (by rw [HL.out]; exact hmL) hd)
          clear hd
          go_wp2
          go_round
          case rel => exact ⟨k + 1, by omega, by go_num, by rw [E.out, EQ.out, HL.out]⟩
          case measure => simp [intOf]; omega
        · have D : ((m : Int) % (lk.length : Int) != 0) = true := by rw [← Int.natCast_emod, bne_iff_ne]; omega
          have hm' := lcm_mul_lt Q.out (by rw [HL.out]; exact hmL) hd
          rw [HL.out] at hm'
          clear hd
          go_wp2
          go_round
          case rel => exact ⟨m + r, q + 1, by go_num, hm', (by rw [Nat.add_mul, ← Q.out, Nat.one_mul] : m + r = (q + 1) * r), by omega⟩
          case measure => simp [intOf]; omega
    · have e : k = t.length := by omega
      subst e
      go_wp2
      go_ret
      exact ⟨ret_i (by rw [rndTo_all]), rfl⟩


set_option maxHeartbeats 400000 in
theorem far_any (v : Value) (t : List (List Int)) (a : Int) (n : Nat) (w : World) (hv : RowsAt w v t) (ht : Vld t) (ha1 : -2000000 ≤ a) (ha2 : a ≤ 2000000) (hn : n ≤ 2000000) :
    Calls Try.prog 57 #[v, .int .i64 a, .int .i64 n] w fun e w' => e = .returned (.int .i64 (acc (spd t) a n)) ∧ Below w.heap.size w w' := by
  have P := drift_prod ht n
  have E := Lib.hid (drift_parts (t := t) a n)
  have hr := ht.rnd_pos
  have hr2 := ht.rnd_le
  have hm := Nat.mod_lt n hr
  have hd := Nat.div_le_self n (rnd t)
  have b2 := some_bd ht a (n % rnd t)
  go_enter Try.func57, Try.ntmps57
  go_wp2_with (go_at_call 72; refine (rround_any _ _ _ hv ht).mono ?_; rintro e w1 ⟨rfl, rfl⟩)
  have S1 := fun nq => Calls.quiet_of_same (n := nq) ((rdrift_any v t 0 (rnd t) _ (hv.drewN nq) ht (by omega) (by omega) (by omega)).mono fun _ _ h => ⟨h.1, h.2.symm⟩)
  have S2 := fun nq => Calls.quiet_of_same (n := nq) ((rdrift_any v t a (n % rnd t) _ (hv.drewN nq) ht (by omega) (by omega) (by omega)).mono fun _ _ h => ⟨h.1, h.2.symm⟩)
  rw [Int.natCast_emod] at S2
  have H1 := Lib.hid S1
  have H2 := Lib.hid S2
  have E' := E.out
  rw [Int.natCast_ediv] at E' P
  have E2 := Lib.hid E'
  have hdv := IntWalk.tdiv_le n (rnd t) (by omega) (by omega)
  have hne : ((rnd t : Int) == 0) = false := by simp; omega
  clear S1 S2 hv E E' hd hm
  generalize acc (spd t) 0 (rnd t) = A0 at *
  generalize acc (spd t) a (n % rnd t) = A1 at *
  refine wp_region_quiet_lit (by kernel_rfl) (by kernel_rfl) ?_
  repeat (any_goals (first | go_big_quiet_step ((go_at_call 73; first | (with_reducible exact H1.out _) | (with_reducible exact H2.out _))) | quiet_step (fail)))
  all_goals (refine wpQuiet_nil ?_; intro _ hw'; obtain ⟨nq, hw''⟩ := hw'; subst hw'')
  all_goals go_wp2
  go_ret
  exact ⟨ret_i (by rw [E2.out]; have := some_bd ht a n; exact IntWalk.wrap64_in _ (by omega)), below_drewN (Below.refl _ _) _⟩

set_option maxHeartbeats 400000 in
theorem rSpeed_any (v : Value) (t : List (List Int)) (h : Int) (w : World) (hv : RowsAt w v t) :
    Calls Try.prog 18 #[v, .int .i64 h] w fun e w' => e = .returned (.tuple #[.int .i64 (qi t (hourB h) (spd t h)), .int .i64 (qe t (hourB h))]) ∧ w = w' := by
  cases hy : vld t with
  | false =>
    rw [qi_no hy, qe_no hy]
    have Y := Lib.hid hy
    clear hy
    go_enter Try.func18, Try.ntmps18
    go_wp2_with (go_at_call 22; refine (rValid_any _ _ _ hv).mono ?_; rintro e w' ⟨rfl, rfl⟩; rw [Y.out])
    go_ret2
    exact ⟨rfl, rfl⟩
  | true =>
    cases hr : hourB h with
    | false =>
      rw [qi_mid, qe_mid hy]
      have Y := Lib.hid hy
      have R := Lib.hid hr
      clear hy hr
      go_enter Try.func18, Try.ntmps18
      go_wp2_with (first | (go_at_call 22; refine (rValid_any _ _ _ hv).mono ?_; rintro e w' ⟨rfl, rfl⟩; rw [Y.out]) | (go_at_call 23; refine (rIsHour_any _ _).mono ?_; rintro e w' ⟨rfl, rfl⟩; rw [R.out]))
      go_ret2
      exact ⟨rfl, rfl⟩
    | true =>
      rw [qi_yes hy, qe_yes hy]
      have T := (vld_iff t).1 hy
      have Y := Lib.hid hy
      have R := Lib.hid hr
      clear hy hr
      go_enter Try.func18, Try.ntmps18
      go_wp2_with (first | (go_at_call 22; refine (rValid_any _ _ _ hv).mono ?_; rintro e w' ⟨rfl, rfl⟩; rw [Y.out]) | (go_at_call 23; refine (rIsHour_any _ _).mono ?_; rintro e w' ⟨rfl, rfl⟩; rw [R.out]) | (go_at_call 53; refine (rspeed_any _ _ _ _ hv T).mono ?_; rintro e w' ⟨rfl, rfl⟩))
      go_ret2
      exact ⟨rfl, rfl⟩

set_option maxHeartbeats 1000000 in
theorem rDrift_any (v : Value) (t : List (List Int)) (h n : Int) (w : World) (hv : RowsAt w v t) :
    Calls Try.prog 20 #[v, .int .i64 h, .int .i64 n] w fun e w' => e = .returned (.tuple #[.int .i64 (qi t (hourB h && spanB n) (acc (spd t) h n.toNat)), .int .i64 (qe t (hourB h && spanB n))]) ∧ Below w.heap.size w w' := by
  cases hy : vld t with
  | false =>
    rw [qi_no hy, qe_no hy]
    have Y := Lib.hid hy
    clear hy
    go_enter Try.func20, Try.ntmps20
    go_wp2_with (go_at_call 22; refine (rValid_any _ _ _ hv).mono ?_; rintro e w' ⟨rfl, rfl⟩; rw [Y.out])
    go_ret2
    exact ⟨rfl, Below.refl _ _⟩
  | true =>
    have T := (vld_iff t).1 hy
    cases hr : hourB h with
    | false =>
      rw [Bool.false_and, qi_mid, qe_mid hy]
      have Y := Lib.hid hy
      have R := Lib.hid hr
      clear hy hr
      go_enter Try.func20, Try.ntmps20
      go_wp2_with (first | (go_at_call 22; refine (rValid_any _ _ _ hv).mono ?_; rintro e w' ⟨rfl, rfl⟩; rw [Y.out]) | (go_at_call 23; refine (rIsHour_any _ _).mono ?_; rintro e w' ⟨rfl, rfl⟩; rw [R.out]))
      go_ret2
      exact ⟨rfl, Below.refl _ _⟩
    | true =>
      by_cases h1 : n < 0
      · have hs : spanB n = false := by
          cases hs : spanB n with
          | false => rfl
          | true => have := (spanB_iff n).1 hs; omega
        rw [hs, Bool.and_false, qi_mid, qe_mid hy]
        have Y := Lib.hid hy
        have R := Lib.hid hr
        clear hy hr hs
        go_enter Try.func20, Try.ntmps20
        go_wp2_with (first | (go_at_call 22; refine (rValid_any _ _ _ hv).mono ?_; rintro e w' ⟨rfl, rfl⟩; rw [Y.out]) | (go_at_call 23; refine (rIsHour_any _ _).mono ?_; rintro e w' ⟨rfl, rfl⟩; rw [R.out]))
        go_ret2
        exact ⟨rfl, Below.refl _ _⟩
      · by_cases h2 : 1000000 < n
        · have hs : spanB n = false := by
            cases hs : spanB n with
            | false => rfl
            | true => have := (spanB_iff n).1 hs; omega
          rw [hs, Bool.and_false, qi_mid, qe_mid hy]
          have Y := Lib.hid hy
          have R := Lib.hid hr
          clear hy hr hs
          go_enter Try.func20, Try.ntmps20
          go_wp2_with (first | (go_at_call 22; refine (rValid_any _ _ _ hv).mono ?_; rintro e w' ⟨rfl, rfl⟩; rw [Y.out]) | (go_at_call 23; refine (rIsHour_any _ _).mono ?_; rintro e w' ⟨rfl, rfl⟩; rw [R.out]))
          go_ret2
          exact ⟨rfl, Below.refl _ _⟩
        · have hs : spanB n = true := (spanB_iff n).2 (by omega)
          have hh := (hourB_iff h).1 hr
          rw [hs, Bool.and_self, qi_yes hy, qe_yes hy]
          obtain ⟨n, rfl⟩ := Int.eq_ofNat_of_zero_le (show 0 ≤ n by omega)
          rw [Int.toNat_natCast]
          have h3 : h ≤ 1000000 ∧ -1000000 ≤ h := ⟨hh.2, hh.1⟩
          have Y := Lib.hid hy
          have R := Lib.hid hr
          clear hy hr hs hh
          go_enter Try.func20, Try.ntmps20
          go_wp2_with (first | (go_at_call 22; refine (rValid_any _ _ _ hv).mono ?_; rintro e w' ⟨rfl, rfl⟩; rw [Y.out]) | (go_at_call 23; refine (rIsHour_any _ _).mono ?_; rintro e w' ⟨rfl, rfl⟩; rw [R.out]) | (go_at_call 57; refine (far_any _ _ _ _ _ hv T (by omega) (by omega) (by omega)).mono ?_; rintro e w1 ⟨rfl, hb1⟩))
          go_ret2
          exact ⟨rfl, hb1⟩

end Go.Proofs.Ytflhpnhehaokpaa
