/- Contracts: the first error of claims and an estate; products modulo a number. -/
import Derived.Test.YtaakefjblldccaaC
namespace Go.Proofs.Ytaakefjblldccaa
open Go.RowKit

/-- The first error of claims and an estate. -/
def askE (c : List Int) (n : Int) : Int := if cvl c then (if betw 0 n (tot c) then 0 else 2) else 80


set_option maxHeartbeats 1000000 in
theorem checked_any (v : Value) (c : List Int) (n : Int) (w : World) (hv : IntsAt w v c) :
    Calls Try.prog 68 #[v, .int .i64 n] w fun e w' => e = .returned (.int .i64 (askE c n)) ∧ w = w' := by
  unfold askE
  cases hy : cvl c with
  | false =>
    have Y := Lib.hid hy
    clear hy
    go_enter Try.func68, Try.ntmps68
    go_wp2_with fail
    refine (valid_any _ _ _ hv).mono ?_
    rintro e w' ⟨rfl, rfl⟩
    rw [Y.out]
    go_wp2
    go_ret
    exact ⟨rfl, rfl⟩
  | true =>
    have ht := (cvl_iff c).1 hy
    have Y := Lib.hid hy
    clear hy
    cases hb : betw 0 n (tot c) with
    | false =>
      have B := Lib.hid hb
      clear hb
      go_enter Try.func68, Try.ntmps68
      go_wp2_with fail
      refine (valid_any _ _ _ hv).mono ?_
      rintro e w' ⟨rfl, rfl⟩
      rw [Y.out]
      go_wp2_with fail
      refine (sum_any _ _ _ hv ht).mono ?_
      rintro e w' ⟨rfl, rfl⟩
      go_wp2_with fail
      refine (between_any _ _ _ _).mono ?_
      rintro e w' ⟨rfl, rfl⟩
      rw [B.out]
      go_wp2
      go_ret
      exact ⟨rfl, rfl⟩
    | true =>
      have B := Lib.hid hb
      clear hb
      go_enter Try.func68, Try.ntmps68
      go_wp2_with fail
      refine (valid_any _ _ _ hv).mono ?_
      rintro e w' ⟨rfl, rfl⟩
      rw [Y.out]
      go_wp2_with fail
      refine (sum_any _ _ _ hv ht).mono ?_
      rintro e w' ⟨rfl, rfl⟩
      go_wp2_with fail
      refine (between_any _ _ _ _).mono ?_
      rintro e w' ⟨rfl, rfl⟩
      rw [B.out]
      go_wp2
      go_ret
      exact ⟨rfl, rfl⟩

set_option maxHeartbeats 1000000 in
theorem rasked_any (v : Value) (c : List Int) (n : Int) (w : World) (hv : IntsAt w v c) :
    Calls Try.prog 59 #[v, .int .i64 n] w fun e w' => e = .returned (.int .i64 (askE c n)) ∧ w = w' := by
  unfold askE
  cases hy : cvl c with
  | false =>
    have Y := Lib.hid hy
    clear hy
    go_enter Try.func59, Try.ntmps59
    go_wp2_with fail
    refine (rValid_any _ _ _ hv).mono ?_
    rintro e w' ⟨rfl, rfl⟩
    rw [Y.out]
    go_wp2
    go_ret
    exact ⟨rfl, rfl⟩
  | true =>
    have ht := (cvl_iff c).1 hy
    have Y := Lib.hid hy
    clear hy
    cases hb : betw 0 n (tot c) with
    | false =>
      have B := Lib.hid hb
      clear hb
      go_enter Try.func59, Try.ntmps59
      go_wp2_with fail
      refine (rValid_any _ _ _ hv).mono ?_
      rintro e w' ⟨rfl, rfl⟩
      rw [Y.out]
      go_wp2_with fail
      refine (total_any _ _ _ hv ht).mono ?_
      rintro e w' ⟨rfl, rfl⟩
      go_wp2_with fail
      refine (within_any _ _ _ _).mono ?_
      rintro e w' ⟨rfl, rfl⟩
      rw [B.out]
      go_wp2
      go_ret
      exact ⟨rfl, rfl⟩
    | true =>
      have B := Lib.hid hb
      clear hb
      go_enter Try.func59, Try.ntmps59
      go_wp2_with fail
      refine (rValid_any _ _ _ hv).mono ?_
      rintro e w' ⟨rfl, rfl⟩
      rw [Y.out]
      go_wp2_with fail
      refine (total_any _ _ _ hv ht).mono ?_
      rintro e w' ⟨rfl, rfl⟩
      go_wp2_with fail
      refine (within_any _ _ _ _).mono ?_
      rintro e w' ⟨rfl, rfl⟩
      rw [B.out]
      go_wp2
      go_ret
      exact ⟨rfl, rfl⟩

theorem tstep1 (m o a q : Int) : ((o + a) % m + 2 * a % m * q) % m = (o + a * (2 * q + 1)) % m := by
  rw [Int.add_emod, Int.emod_emod, Int.mul_emod (2 * a % m), Int.emod_emod, ← Int.mul_emod, ← Int.add_emod]
  congr 1
  have : a * (2 * q + 1) = 2 * a * q + a := by rw [Int.mul_add, Int.mul_one, ← Int.mul_assoc, Int.mul_comm a 2]
  omega
theorem tstep0 (m o a q : Int) : (o + 2 * a % m * q) % m = (o + a * (2 * q)) % m := by
  rw [Int.add_emod, Int.mul_emod (2 * a % m), Int.emod_emod, ← Int.mul_emod, ← Int.add_emod, ← Int.mul_assoc, Int.mul_comm a 2]

set_option maxHeartbeats 1000000 in
theorem times_any (a b m : Int) (w : World) (ha : 0 ≤ a) (hb : 0 ≤ b) (hm : 1 ≤ m) (hm2 : m ≤ 2305843009213693953) :
    Calls Try.prog 113 #[.int .i64 a, .int .i64 b, .int .i64 m] w fun e w' => e = .returned (.int .i64 (a * b % m)) ∧ w = w' := by
  have a1 : 0 ≤ a % m := Int.emod_nonneg _ (by omega)
  have a2 : a % m < m := Int.emod_lt_of_pos _ (by omega)
  have b1 : 0 ≤ b % m := Int.emod_nonneg _ (by omega)
  have b2 : b % m < m := Int.emod_lt_of_pos _ (by omega)
  have S : Hid ((0 + a % m * (b % m)) % m = a * b % m) := Lib.hid (by rw [Int.zero_add, ← Int.mul_emod])
  go_enter Try.func113, Try.ntmps113
  go_wp2
  go_loop [0, 1, 7] (fun x y o => ∃ p q r : Int, x = .int .i64 p ∧ y = .int .i64 q ∧ o = .int .i64 r ∧ 0 ≤ p ∧ p < m ∧ 0 ≤ q ∧ q ≤ m ∧ 0 ≤ r ∧ r < m ∧ Hid ((r + p * q) % m = a * b % m)) (fun _ y _ => (intOf y).toNat)
  case atStart => exact ⟨a % m, b % m, 0, by go_num, by go_num, rfl, a1, a2, b1, by omega, by omega, by omega, S⟩
  case round =>
    obtain ⟨p, q, r, rfl, rfl, rfl, p0, p1, q0, q1, r0, r1, H⟩ := hrel
    by_cases hq : 0 < q
    · have e1 : 0 ≤ 2 * p % m := Int.emod_nonneg _ (by omega)
      have e2 : 2 * p % m < m := Int.emod_lt_of_pos _ (by omega)
      have e3 : 0 ≤ (r + p) % m := Int.emod_nonneg _ (by omega)
      have e4 : (r + p) % m < m := Int.emod_lt_of_pos _ (by omega)
      have hdv : q.tdiv 2 = q / 2 := Int.tdiv_eq_ediv_of_nonneg q0
      clear a1 a2 b1 b2 S
      by_cases ho : q % 2 = 1
      · have H2 : Hid (((r + p) % m + 2 * p % m * (q / 2)) % m = a * b % m) := Lib.hid (by
          rw [tstep1, ← H.out]
          congr 3
          omega)
        have hb1 : (q % 2 == 1) = true := by rw [beq_iff_eq]; exact ho
        have HO := Lib.hid ho
        clear ho
        go_wp2
        go_round
        case rel => exact ⟨2 * p % m, q / 2, (r + p) % m, by go_num, by go_num, by go_num, e1, e2, by omega, by omega, e3, e4, H2⟩
        case measure => simp [intOf]; omega
      · have H2 : Hid ((r + 2 * p % m * (q / 2)) % m = a * b % m) := Lib.hid (by
          rw [tstep0, ← H.out]
          congr 3
          omega)
        have hb1 : (q % 2 == 1) = false := by rw [beq_eq_false_iff_ne]; exact ho
        have HO := Lib.hid ho
        clear ho
        go_wp2
        go_round
        case rel => exact ⟨2 * p % m, q / 2, r, by go_num, by go_num, rfl, e1, e2, by omega, by omega, r0, r1, H2⟩
        case measure => simp [intOf]; omega
    · have hq0 : q = 0 := by omega
      subst hq0
      have R : Hid (r = a * b % m) := Lib.hid (by rw [← H.out, Int.mul_zero, Int.add_zero, Int.emod_eq_of_lt r0 r1])
      clear a1 a2 b1 b2 S
      go_wp2
      go_ret
      exact ⟨ret_i R.out, rfl⟩

end Go.Proofs.Ytaakefjblldccaa
