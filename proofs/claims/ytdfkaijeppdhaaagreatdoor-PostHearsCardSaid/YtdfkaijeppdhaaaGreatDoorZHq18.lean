/- Texts of this claim, laid together: TdD, TdE, TdF, TdLaw, TdG, TdH. -/
import Derived.Test.YtdfkaijeppdhaaaGreatDoorZHq17
import Derived.Deep.RegionWith

/- Contracts: the round, sums of speeds, the drift, the beat (the program's own). -/
namespace Go.Proofs.YtdfkaijeppdhaaaGreatDoor.Td
open Go.RowKit
theorem lcm_bound {a b : Nat} (ha2 : a ≤ 27720) (hb2 : b ≤ 12) : a / Nat.gcd a b * b = Nat.lcm a b ∧ a / Nat.gcd a b * b ≤ 332640 := by
  have h1 : a / Nat.gcd a b * b = Nat.lcm a b := by
    rw [Nat.lcm, Nat.mul_comm a b, Nat.mul_div_assoc _ (Nat.gcd_dvd_left a b), Nat.mul_comm]
  refine ⟨h1, ?_⟩
  have h2 : a / Nat.gcd a b ≤ 27720 := Nat.le_trans (Nat.div_le_self _ _) ha2
  exact Nat.le_trans (Nat.mul_le_mul h2 hb2) (by decide)

theorem gcd_step (x y : Nat) : Nat.gcd y (x % y) = Nat.gcd x y := by
  rw [Nat.gcd_comm x y, Nat.gcd_rec y x, Nat.gcd_comm]

theorem emod_cast (p q : Nat) : ((p : Int) % (q : Int)) = ((p % q : Nat) : Int) := (Int.natCast_emod p q).symm
theorem ediv_cast (p q : Nat) : ((p : Int) / (q : Int)) = ((p / q : Nat) : Int) := (Int.natCast_ediv p q).symm

set_option maxHeartbeats 400000 in
theorem common_any (a b : Nat) (w : World) (ha : 1 ≤ a) (hb : 1 ≤ b) (ha2 : a ≤ 27720) (hb2 : b ≤ 12) :
    Calls Tryz.prog 249 #[.int .i64 a, .int .i64 b] w fun e w' => e = .returned (.int .i64 (Nat.lcm a b : Nat)) ∧ Below w.heap.size w w' := by
  have L := lcm_bound ha2 hb2
  have L1 := Lib.hid L.1
  have L2 := Lib.hid L.2
  clear L
  go_enter Tryz.func249, Tryz.ntmps249
  go_wp2
  go_loopw [5, 6] (fun x y wr => ∃ p q : Nat, x = .int .i64 p ∧ y = .int .i64 q ∧ 1 ≤ p ∧ p ≤ 27720 ∧ q ≤ 27720 ∧ Hid (Nat.gcd p q = Nat.gcd a b) ∧ Below w.heap.size w wr) (fun _ y _ => (intOf y).toNat)
  case atStart => exact ⟨a, b, rfl, rfl, ha, ha2, by omega, rfl, Below.refl _ _⟩
  case round =>
    obtain ⟨p, q, rfl, rfl, hp, hp2, hq2, G, hbel⟩ := hrel
    by_cases hq : 0 < q
    · have hm := Nat.mod_lt p hq
      go_wp2
      go_region
      all_goals go_wp2
      all_goals go_roundw
      case rel => exact ⟨q, p % q, rfl, by rw [emod_cast], by omega, by omega, by omega, (gcd_step p q).trans G.out, hbel.drew⟩
      case measure => rw [emod_cast]; simp only [intOf]; omega
    · have e : q = 0 := by omega
      subst e
      have G' := G.out
      rw [Nat.gcd_zero_right] at G'
      clear G
      have GH := Lib.hid G'
      clear G'
      go_wp2
      go_ret
      refine ⟨ret_i ?_, hbel⟩
      have h2 := L2.out
      have h3 := Nat.div_le_self a (a.gcd b)
      have h4 : (-9223372036854775808 : Int) ≤ ((a / a.gcd b : Nat) : Int) ∧ ((a / a.gcd b : Nat) : Int) ≤ 9223372036854775807 := by
        generalize a / a.gcd b = z at *
        omega
      rw [GH.out, ediv_cast, IntWalk.wrap64_in ((a / a.gcd b : Nat) : Int) h4, ← Int.natCast_mul, L1.out]
      apply IntWalk.wrap64_in
      rw [L1.out] at h2
      omega

/-- The round of the first waves. -/
def rndTo (t : List (List Int)) (k : Nat) : Nat := rnd (t.take k)

theorem rndTo_succ (t : List (List Int)) (k : Nat) (hk : k < t.length) : rndTo t (k + 1) = Nat.lcm (rndTo t k) (t.getD k []).length := by
  unfold rndTo rnd
  rw [List.take_succ_eq_append_getElem hk, List.foldl_append, List.getD_eq_getElem?_getD, List.getElem?_eq_getElem hk]
  rfl

theorem rndTo_bd {t : List (List Int)} (h : Vld t) (k : Nat) : 1 ≤ rndTo t k ∧ rndTo t k ≤ 27720 := by
  have hm : ∀ l ∈ t.take k, 1 ≤ l.length ∧ l.length ≤ 12 := fun l hl => ⟨(h.wave l (List.mem_of_mem_take hl)).1, (h.wave l (List.mem_of_mem_take hl)).2.1⟩
  exact ⟨rnd_fold_pos _ 1 (by omega) (fun l hl => (hm l hl).1), Nat.le_of_dvd (by omega) (rnd_fold_least _ 1 27720 (Nat.one_dvd _) (fun l hl => le12_dvd (hm l hl).1 (hm l hl).2))⟩

theorem rndTo_all (t : List (List Int)) : rndTo t t.length = rnd t := by unfold rndTo; rw [List.take_length]

set_option maxHeartbeats 400000 in
theorem round_any (v : Value) (t : List (List Int)) (w : World) (hv : RowsAt w v t) (ht : Vld t) :
    Calls Tryz.prog 232 #[v] w fun e w' => e = .returned (.int .i64 (rnd t : Nat)) ∧ Below w.heap.size w w' := by
  obtain ⟨a, cap, rfl, hl, hq⟩ := id hv
  have hlo := ht.lo
  have hhi := ht.hi
  obtain ⟨b, off, rfl, hc⟩ := hq (by omega)
  clear hq hv
  go_enter Tryz.func232, Tryz.ntmps232
  go_wp2
  go_loopw [3, 8] (fun s i wr => ∃ k : Nat, k ≤ t.length ∧ i = .int .i64 k ∧ s = .int .i64 (rndTo t k : Nat) ∧ Below w.heap.size w wr) (fun _ i _ => t.length - (intOf i).toNat)
  case atStart => exact ⟨0, Nat.zero_le _, rfl, rfl, Below.refl _ _⟩
  case round =>
    obtain ⟨k, hk, rfl, rfl, hbel⟩ := hrel
    have hbd := rndTo_bd ht k
    by_cases hlt : k < t.length
    · obtain ⟨x, hx0, hi⟩ := hc k hlt
      have hw := ht.wave _ (getD_mem hlt)
      have hw1 := hw.1
      have hw2 := hw.2.1
      have E := Lib.hid (rndTo_succ t k hlt)
      have hx := keep_cell hbel hx0
      generalize t.getD k [] = lk at *
      generalize rndTo t k = r at *
      obtain ⟨xa, xc, rfl, hxr⟩ := id hi
      clear hxr hi hw hx0 hc
      go_wp2_with (go_at_call 249; refine (common_any _ _ _ hbd.1 hw1 hbd.2 hw2).mono ?_; rintro e w1 ⟨rfl, hb1⟩)
      go_roundw
      case rel => exact ⟨k + 1, by omega, by go_num, by rw [E.out], hbel.trans (hb1.mono hbel.size)⟩
      case measure => simp [intOf]; omega
    · have e : k = t.length := by omega
      subst e
      go_wp2
      go_ret
      exact ⟨ret_i (by rw [rndTo_all]), hbel⟩

theorem some_bd {t : List (List Int)} (h : Vld t) (a : Int) (n : Nat) : -(400 * (n : Int)) ≤ acc (spd t) a n ∧ acc (spd t) a n ≤ 400 * n := acc_bound _ 400 h.bd a n

set_option maxHeartbeats 400000 in
theorem some_any (v : Value) (t : List (List Int)) (a : Int) (n : Nat) (w : World) (hv : RowsAt w v t) (ht : Vld t) (ha1 : -10000000 ≤ a) (ha2 : a ≤ 10000000) (hn : n ≤ 10000000) :
    Calls Tryz.prog 237 #[v, .int .i64 a, .int .i64 n] w fun e w' => e = .returned (.int .i64 (acc (spd t) a n)) ∧ w = w' := by
  go_enter Tryz.func237, Tryz.ntmps237
  go_wp2
  go_loop [7, 10] (fun s i => ∃ k : Nat, k ≤ n ∧ i = .int .i64 k ∧ s = .int .i64 (acc (spd t) a k)) (fun _ i => n - (intOf i).toNat)
  case atStart => exact ⟨0, Nat.zero_le _, rfl, rfl⟩
  case round =>
    obtain ⟨k, hk, rfl, rfl⟩ := hrel
    by_cases hlt : k < n
    · have b1 := some_bd ht a k
      have b2 := ht.bd (a + k)
      have E := Lib.hid (show acc (spd t) a (k + 1) = acc (spd t) a k + spd t (a + k) from rfl)
      generalize acc (spd t) a k = s at *
      go_wp2_with (go_at_call 250; refine (speed_any _ _ _ _ hv ht).mono ?_; rintro e w' ⟨rfl, rfl⟩)
      go_round
      case rel => exact ⟨k + 1, by omega, by go_num, by rw [E.out]⟩
      case measure => simp [intOf]; omega
    · have e : k = n := by omega
      subst e
      go_wp2
      go_ret
      exact ⟨rfl, rfl⟩

theorem drift_parts {t : List (List Int)} (a : Int) (n : Nat) : ((n / rnd t : Nat) : Int) * acc (spd t) 0 (rnd t) + acc (spd t) a (n % rnd t) = acc (spd t) a n :=
  acc_parts (spd_per t) a n

theorem drift_prod {t : List (List Int)} (h : Vld t) (n : Nat) : -(400 * (n : Int)) ≤ ((n / rnd t : Nat) : Int) * acc (spd t) 0 (rnd t) ∧ ((n / rnd t : Nat) : Int) * acc (spd t) 0 (rnd t) ≤ 400 * n := by
  have h1 := drift_parts (t := t) 0 (n - n % rnd t)
  have h2 := some_bd h 0 (n - n % rnd t)
  have hr := h.rnd_pos
  have h3 : (n - n % rnd t) / rnd t = n / rnd t := by
    have := Nat.div_add_mod n (rnd t)
    have e : n - n % rnd t = rnd t * (n / rnd t) := by omega
    rw [e, Nat.mul_div_cancel_left _ hr]
  have h4 : (n - n % rnd t) % rnd t = 0 := by
    have := Nat.div_add_mod n (rnd t)
    have e : n - n % rnd t = rnd t * (n / rnd t) := by omega
    rw [e, Nat.mul_mod_right]
  rw [h3, h4] at h1
  simp only [acc, Int.add_zero] at h1
  rw [h1]
  omega

set_option maxHeartbeats 400000 in
theorem drift_any (v : Value) (t : List (List Int)) (a : Int) (n : Nat) (w : World) (hv : RowsAt w v t) (ht : Vld t) (ha1 : -2000000 ≤ a) (ha2 : a ≤ 2000000) (hn : n ≤ 2000000) :
    Calls Tryz.prog 203 #[v, .int .i64 a, .int .i64 n] w fun e w' => e = .returned (.int .i64 (acc (spd t) a n)) ∧ Below w.heap.size w w' := by
  have P := drift_prod ht n
  have E := Lib.hid (drift_parts (t := t) a n)
  have hr := ht.rnd_pos
  have hr2 := ht.rnd_le
  have hm := Nat.mod_lt n hr
  have hd := Nat.div_le_self n (rnd t)
  have b2 := some_bd ht a (n % rnd t)
  go_enter Tryz.func203, Tryz.ntmps203
  go_wp2_with (go_at_call 232; refine (round_any _ _ _ hv ht).mono ?_; rintro e w1 ⟨rfl, hb1⟩)
  have hv1 := hv.below hb1
  have S1 := fun nq => Calls.quiet_of_same (n := nq) ((some_any v t 0 (rnd t) _ (hv1.drewN nq) ht (by omega) (by omega) (by omega)).mono fun _ _ h => ⟨h.1, h.2.symm⟩)
  have S2 := fun nq => Calls.quiet_of_same (n := nq) ((some_any v t a (n % rnd t) _ (hv1.drewN nq) ht (by omega) (by omega) (by omega)).mono fun _ _ h => ⟨h.1, h.2.symm⟩)
  rw [Int.natCast_emod] at S2
  have H1 := Lib.hid S1
  have H2 := Lib.hid S2
  have E' := E.out
  rw [Int.natCast_ediv] at E' P
  have E2 := Lib.hid E'
  have hdv := IntWalk.tdiv_le n (rnd t) (by omega) (by omega)
  have hne : ((rnd t : Int) == 0) = false := by simp; omega
  clear S1 S2 hv hv1 E E' hd hm
  generalize acc (spd t) 0 (rnd t) = A0 at *
  generalize acc (spd t) a (n % rnd t) = A1 at *
  refine wp_region_quiet_lit (by kernel_rfl) (by kernel_rfl) ?_
  repeat (any_goals (first | go_big_quiet_step ((go_at_call 237; first | (with_reducible exact H1.out _) | (with_reducible exact H2.out _))) | quiet_step (fail)))
  all_goals (refine wpQuiet_nil ?_; intro _ hw'; obtain ⟨nq, hw''⟩ := hw'; subst hw'')
  all_goals go_wp2
  go_ret
  exact ⟨ret_i (by rw [E2.out]; have := some_bd ht a n; exact IntWalk.wrap64_in _ (by omega)), belowN0 hb1 _⟩


theorem repB_hit {f : Int → Int} {r b k : Nat} (hk : k < r) (h : ¬ f k = f ((k : Int) + b)) : repB f r b = false := by
  unfold repB
  rw [List.all_eq_false]
  exact ⟨k, List.mem_range.2 hk, by simpa using h⟩

theorem repB_all {f : Int → Int} {r b : Nat} (h : ∀ k : Nat, k < r → f k = f ((k : Int) + b)) : repB f r b = true := by
  unfold repB
  rw [List.all_eq_true]
  exact fun k hk => by simpa using h k (List.mem_range.1 hk)

set_option maxHeartbeats 400000 in
theorem repeats_any (v : Value) (t : List (List Int)) (b : Nat) (w : World) (hv : RowsAt w v t) (ht : Vld t) (hb : b ≤ 100000) :
    Calls Tryz.prog 233 #[v, .int .i64 b] w fun e w' => e = .returned (.bool (repB (spd t) (rnd t) b)) ∧ Below w.heap.size w w' := by
  have hr := ht.rnd_pos
  have hr2 := ht.rnd_le
  go_enter Tryz.func233, Tryz.ntmps233
  go_wp2_with (go_at_call 232; refine (round_any _ _ _ hv ht).mono ?_; rintro e w1 ⟨rfl, hb1⟩)
  have hv1 := hv.below hb1
  clear hv
  go_loop [8] (fun i => ∃ k : Nat, k ≤ rnd t ∧ i = .int .i64 k ∧ Hid (∀ j : Nat, j < k → spd t j = spd t ((j : Int) + b))) (fun i => rnd t - (intOf i).toNat)
  case atStart => exact ⟨0, Nat.zero_le _, rfl, fun j hj => by omega⟩
  case round =>
    obtain ⟨k, hk, rfl, H⟩ := hrel
    by_cases hlt : k < rnd t
    · by_cases he : spd t k = spd t ((k : Int) + b)
      · have E := Lib.hid he
        have hd : (spd t k != spd t ((k : Int) + b)) = false := by simpa using he
        clear he
        go_wp2_with (first | (go_at_call_of 250 (Value.int .i64 (k : Int)); refine (speed_any _ _ _ _ hv1 ht).mono ?_; rintro e w' ⟨rfl, rfl⟩) | (go_at_call_of 250 (Value.int .i64 ((k : Int) + b)); refine (speed_any _ _ _ _ hv1 ht).mono ?_; rintro e w' ⟨rfl, rfl⟩))
        go_round
        case rel => exact ⟨k + 1, by omega, by go_num, fun j hj => by
          rcases Nat.lt_succ_iff_lt_or_eq.1 hj with h | rfl
          · exact H.out j h
          · exact E.out⟩
        case measure => simp [intOf]; omega
      · have E := Lib.hid (repB_hit hlt he)
        have hd : (spd t k != spd t ((k : Int) + b)) = true := by simpa using he
        clear he
        go_wp2_with (first | (go_at_call_of 250 (Value.int .i64 (k : Int)); refine (speed_any _ _ _ _ hv1 ht).mono ?_; rintro e w' ⟨rfl, rfl⟩) | (go_at_call_of 250 (Value.int .i64 ((k : Int) + b)); refine (speed_any _ _ _ _ hv1 ht).mono ?_; rintro e w' ⟨rfl, rfl⟩))
        go_ret
        exact ⟨by rw [E.out]; rfl, hb1⟩
    · have e : k = rnd t := by omega
      have H2 := Lib.hid (repB_all (b := b) (f := spd t) (r := rnd t) (fun j hj => H.out j (by omega)))
      subst e
      go_wp2
      go_ret
      exact ⟨by rw [H2.out]; rfl, hb1⟩

theorem btFrom_end {f : Int → Int} {r : Nat} (b : Nat) : btFrom f r (r - r) b = r := by rw [Nat.sub_self]; rfl
theorem btFrom_hit {f : Int → Int} {r b : Nat} (hb : b < r) (h : r % b = 0 ∧ repB f r b = true) : btFrom f r (r - b) b = b := by
  rw [show r - b = (r - (b + 1)) + 1 from by omega]; unfold btFrom; rw [if_pos h]
theorem btFrom_miss {f : Int → Int} {r b : Nat} (hb : b < r) (h : ¬ (r % b = 0 ∧ repB f r b = true)) : btFrom f r (r - b) b = btFrom f r (r - (b + 1)) (b + 1) := by
  rw [show r - b = (r - (b + 1)) + 1 from by omega]; conv => lhs; unfold btFrom
  rw [if_neg h]

set_option maxHeartbeats 1000000 in
theorem beat_any (v : Value) (t : List (List Int)) (w : World) (hv : RowsAt w v t) (ht : Vld t) :
    Calls Tryz.prog 197 #[v] w fun e w' => e = .returned (.int .i64 (bt (spd t) (rnd t) : Nat)) ∧ Below w.heap.size w w' := by
  have hr := ht.rnd_pos
  have hr2 := ht.rnd_le
  go_enter Tryz.func197, Tryz.ntmps197
  go_wp2_with (go_at_call 232; refine (round_any _ _ _ hv ht).mono ?_; rintro e w1 ⟨rfl, hb1⟩)
  go_loopw [4] (fun i wr => ∃ b : Nat, 1 ≤ b ∧ b ≤ rnd t ∧ i = .int .i64 b ∧ Hid (btFrom (spd t) (rnd t) (rnd t - b) b = bt (spd t) (rnd t)) ∧ Below w.heap.size w wr) (fun i _ => rnd t - (intOf i).toNat)
  case atStart => exact ⟨1, Nat.le_refl _, hr, rfl, rfl, hb1⟩
  case round =>
    obtain ⟨b, hb0, hb, rfl, H, hbel⟩ := hrel
    clear hb1
    by_cases hlt : b < rnd t
    · have hvr := hv.below hbel
      clear hv
      by_cases hd : rnd t % b = 0
      · have hD : ((rnd t : Int) % (b : Int) == 0) = true := by rw [beq_iff_eq, ← Int.natCast_emod, hd]; rfl
        cases hp : repB (spd t) (rnd t) b with
        | true =>
          have E := Lib.hid (btFrom_hit hlt ⟨hd, hp⟩)
          have P := Lib.hid hp
          clear hp hd
          go_wp2_with (go_at_call 233; refine (repeats_any _ _ _ _ hvr ht (by omega)).mono ?_; rintro e w2 ⟨rfl, hb2⟩; rw [P.out])
          go_ret
          exact ⟨ret_i (by rw [← H.out, E.out]), hbel.trans (hb2.mono hbel.size)⟩
        | false =>
          have E := Lib.hid (btFrom_miss (f := spd t) hlt (fun h => by rw [hp] at h; exact absurd h.2 (by simp)))
          have P := Lib.hid hp
          clear hp hd
          go_wp2_with (go_at_call 233; refine (repeats_any _ _ _ _ hvr ht (by omega)).mono ?_; rintro e w2 ⟨rfl, hb2⟩; rw [P.out])
          go_roundw
          case rel => exact ⟨b + 1, by omega, by omega, by go_num, by rw [← E.out]; exact H.out, hbel.trans (hb2.mono hbel.size)⟩
          case measure => simp [intOf]; omega
      · have hD : ((rnd t : Int) % (b : Int) == 0) = false := by rw [beq_eq_false_iff_ne, ← Int.natCast_emod]; omega
        have E := Lib.hid (btFrom_miss (f := spd t) hlt (fun h => hd h.1))
        clear hd
        go_wp2
        go_roundw
        case rel => exact ⟨b + 1, by omega, by omega, by go_num, by rw [← E.out]; exact H.out, hbel⟩
        case measure => simp [intOf]; omega
    · have e : b = rnd t := by omega
      have H' := H.out
      rw [e, btFrom_end] at H'
      have HH := Lib.hid H'
      clear H' H
      go_wp2
      go_ret
      exact ⟨ret_i (by rw [← HH.out]), hbel⟩

end Go.Proofs.YtdfkaijeppdhaaaGreatDoor.Td

/- Contracts: the program's Speed, Drift, Round, Net, Beat. -/
namespace Go.Proofs.YtdfkaijeppdhaaaGreatDoor.Td
open Go.RowKit
/-- A number that is an hour; a number of hours. -/
def hourB (n : Int) : Bool := betw (-1000000) n 1000000
def spanB (n : Int) : Bool := betw 0 n 1000000

theorem hourB_iff (n : Int) : hourB n = true ↔ -1000000 ≤ n ∧ n ≤ 1000000 := betw_iff _ _ _
theorem spanB_iff (n : Int) : spanB n = true ↔ 0 ≤ n ∧ n ≤ 1000000 := betw_iff _ _ _

set_option maxHeartbeats 400000 in
theorem isHour_any (n : Int) (w : World) :
    Calls Tryz.prog 200 #[.int .i64 n] w fun e w' => e = .returned (.bool (hourB n)) ∧ w = w' := by
  unfold hourB
  go_enter Tryz.func200, Tryz.ntmps200
  go_wp2_with (go_at_call 201; refine (between_any _ _ _ _).mono ?_; rintro e w' ⟨rfl, rfl⟩)
  go_ret
  exact ⟨rfl, rfl⟩

theorem drift1_any (v : Value) (t : List (List Int)) (h n : Int) (B C : Nat) (w : World) (hv : RowsAt w v t) (ht : Vld t) (hcell : w.cell? ⟨B, 0, none⟩ = some (.int .i64 h)) (hcell2 : w.cell? ⟨C, 0, none⟩ = some (.int .i64 n))
    (hh : hourB h = true) (hn : spanB n = true) :
    Calls Tryz.prog 202 #[v, .pointer (some ⟨B, 0, none⟩), .pointer (some ⟨C, 0, none⟩)] w fun e w' => e = .returned (.int .i64 (acc (spd t) h n.toNat)) ∧ Below w.heap.size w w' := by
  have h1 := (hourB_iff h).1 hh
  have h2 := (spanB_iff n).1 hn
  obtain ⟨n, rfl⟩ := Int.eq_ofNat_of_zero_le h2.1
  have h3 : h ≤ 1000000 ∧ -1000000 ≤ h := ⟨h1.2, h1.1⟩
  clear hh hn h1
  go_enter Tryz.func202, Tryz.ntmps202
  go_wp2_with (go_at_call 203; refine (drift_any _ _ _ _ _ hv ht (by omega) (by omega) (by omega)).mono ?_; rintro e w1 ⟨rfl, hb1⟩)
  go_ret
  exact ⟨rfl, hb1⟩

set_option maxHeartbeats 400000 in
theorem tDrift_any (v : Value) (t : List (List Int)) (h n : Int) (w : World) (hv : RowsAt w v t) :
    Calls Tryz.prog 152 #[v, .int .i64 h, .int .i64 n] w fun e w' => e = .returned (.tuple #[.int .i64 (qi t (hourB h && spanB n) (acc (spd t) h n.toNat)), .int .i64 (qe t (hourB h && spanB n))]) ∧ Below w.heap.size w w' := by
  have hal : Below w.heap.size w ((w.alloc (.cells #[.int .i64 h] 3)).alloc (.cells #[.int .i64 n] 3)) := ((Below.refl _ w).alloc (Nat.le_refl _) _).alloc (by simp) _
  have hv1 := hv.below hal
  have hc1 : ((w.alloc (.cells #[.int .i64 h] 3)).alloc (.cells #[.int .i64 n] 3)).cell? ⟨w.heap.size, 0, none⟩ = some (.int .i64 h) := keep_cell ((Below.refl _ _).alloc (Nat.le_refl _) _) (by simp)
  have hc2 : ((w.alloc (.cells #[.int .i64 h] 3)).alloc (.cells #[.int .i64 n] 3)).cell? ⟨w.heap.size + 1, 0, none⟩ = some (.int .i64 n) := by
    have h1 : (w.alloc (.cells #[.int .i64 h] 3)).heap.size = w.heap.size + 1 := by simp
    rw [← h1]
    simp
  have HA := askedInt_any v t (hourB h && spanB n) 202 #[.pointer (some ⟨w.heap.size, 0, none⟩), .pointer (some ⟨w.heap.size + 1, 0, none⟩)] (acc (spd t) h n.toNat) _ hv1 (enters_of Tryz.func202 (by kernel_rfl) rfl)
    (fun hy hr W tv hr' hb => drift1_any tv t h n w.heap.size (w.heap.size + 1) W hr' ((vld_iff t).1 hy) (keep_cell hb hc1) (keep_cell hb hc2) (by simp at hr; exact hr.1) (by simp at hr; exact hr.2))
  have H := Lib.hid HA
  clear HA hc1 hc2 hv1 hv
  unfold spanB at *
  cases hh : hourB h with
  | true =>
    rw [hh] at H
    have HH := Lib.hid hh
    clear hh
    go_enter Tryz.func152, Tryz.ntmps152
    go_wp2_with (first | (go_at_call 200; refine (isHour_any _ _).mono ?_; rintro e w' ⟨rfl, rfl⟩; rw [HH.out]) | (go_at_call 201; refine (between_any _ _ _ _).mono ?_; rintro e w' ⟨rfl, rfl⟩) | (go_at_call 196; refine H.out.mono ?_; rintro e w1 ⟨rfl, hb1⟩))
    go_ret2
    exact ⟨rfl, below_trans hal hb1⟩
  | false =>
    rw [hh] at H
    have HH := Lib.hid hh
    clear hh
    go_enter Tryz.func152, Tryz.ntmps152
    go_wp2_with (first | (go_at_call 200; refine (isHour_any _ _).mono ?_; rintro e w' ⟨rfl, rfl⟩; rw [HH.out]) | (go_at_call 201; refine (between_any _ _ _ _).mono ?_; rintro e w' ⟨rfl, rfl⟩) | (go_at_call 196; refine H.out.mono ?_; rintro e w1 ⟨rfl, hb1⟩))
    go_ret2
    exact ⟨rfl, below_trans hal hb1⟩

set_option maxHeartbeats 400000 in
theorem tBeat_any (v : Value) (t : List (List Int)) (w : World) (hv : RowsAt w v t) :
    Calls Tryz.prog 150 #[v] w fun e w' => e = .returned (.tuple #[.int .i64 (qi t true (bt (spd t) (rnd t) : Nat)), .int .i64 (qe t true)]) ∧ Below w.heap.size w w' := by
  have HA := askedInt_any v t true 197 #[] (bt (spd t) (rnd t) : Nat) _ hv (enters_of Tryz.func197 (by kernel_rfl) rfl)
    (fun hy _ W tv hr hb => beat_any tv t W hr ((vld_iff t).1 hy))
  have H := Lib.hid HA
  clear HA hv
  go_enter Tryz.func150, Tryz.ntmps150
  go_wp2_with (go_at_call 196; refine H.out.mono ?_; rintro e w1 ⟨rfl, hb1⟩)
  go_ret2
  exact ⟨rfl, hb1⟩

end Go.Proofs.YtdfkaijeppdhaaaGreatDoor.Td

/- Contracts: the reference's Valid, IsHour, speed, drift, round, far, and Speed, Drift, Round, Net. -/
namespace Go.Proofs.YtdfkaijeppdhaaaGreatDoor.Td
open Go.RowKit
theorem getD_mem' {l : List Int} {k : Nat} (hk : k < l.length) : l.getD k 0 ∈ l := by
  rw [List.getD_eq_getElem?_getD, List.getElem?_eq_getElem hk]; simp

end Go.Proofs.YtdfkaijeppdhaaaGreatDoor.Td

/- Contracts: Wide and Awake, which every law of tides calls. -/
namespace Go.Proofs.YtdfkaijeppdhaaaGreatDoor.Td
open Go.RowKit
/-- Whether a tide is too wide for a statement: the answer of Wide. -/
def wide (t : List (List Int)) : Bool := (t.any fun l => decide (40 < l.length)) || decide (20 < t.length)

end Go.Proofs.YtdfkaijeppdhaaaGreatDoor.Td

/- Contracts: the speeds of a beat (Once), of the program and of the reference; the reference's Round, Net, Beat; SameInts. -/
namespace Go.Proofs.YtdfkaijeppdhaaaGreatDoor.Td
open Go.RowKit
theorem Tryz.infoInt : (Tryz.prog.info? 3).map (fun i => (i.zero, i.size, i.bytes)) = some (some (.int .i64 0), 1, 8) := by kernel_rfl

end Go.Proofs.YtdfkaijeppdhaaaGreatDoor.Td

/- Contracts: the reference's beat, Beat, Once, Round, Net; SameInts. -/
namespace Go.Proofs.YtdfkaijeppdhaaaGreatDoor.Td
open Go.RowKit
theorem ints_cell {w : World} {v : Value} {l : List Int} (h : IntsAt w v l) (h0 : 0 < l.length) :
    ∃ b off cap, v = .slice (some ⟨b, off, none⟩) l.length cap ∧ ∀ j, j < l.length → w.cell? ⟨b, off + j, none⟩ = some (.int .i64 (l.getD j 0)) := by
  obtain ⟨a, cap, rfl, _, hq⟩ := h
  obtain ⟨b, off, rfl, hc⟩ := hq h0
  exact ⟨b, off, cap, rfl, hc⟩


end Go.Proofs.YtdfkaijeppdhaaaGreatDoor.Td
