/- Contract: whether awards share an estate, of the reference. -/
import Derived.Test.YtaakefjblldccaaI
namespace Go.Proofs.Ytaakefjblldccaa
open Go.RowKit

theorem within_q (a b c : Int) (w : World) (q : Nat) :
    Calls Try.prog 55 #[.int .i64 a, .int .i64 b, .int .i64 c] (w.drewN q) fun e w'' => e = .returned (.bool (betw a b c)) ∧ ∃ k, w'' = w.drewN k :=
  Calls.quiet_of_same ((within_any a b c (w.drewN q)).mono fun _ _ h => ⟨h.1, h.2.symm⟩)

set_option maxHeartbeats 2000000 in
theorem rshares_any (v x : Value) (c : List Int) (l : List Rat2) (n : Int) (w : World) (hv : IntsAt w v c) (hx : RatsAt w x l) (hc : Cvl c) (ha : arA c l = true) (hn : 0 ≤ n ∧ n ≤ 8000) :
    Calls Try.prog 61 #[v, .int .i64 n, x] w fun e w' => e = .returned (.bool (shB c n l)) ∧ Below w.heap.size w w' := by
  have hlen : l.length = c.length := by
    unfold arA at ha
    rw [Bool.and_eq_true, beq_iff_eq] at ha
    exact ha.1
  have hlo := hc.lo
  have hhi := hc.hi
  have HX := Lib.hid hx
  have l8 : l.length ≤ 8 := by omega
  have l0 : 0 < l.length := by omega
  have lc : l.length ≤ c.length := by omega
  have lc2 : c.length ≤ l.length := by omega
  obtain ⟨b, off, cap, rfl, hcc⟩ := ints_cell hv (by omega)
  obtain ⟨b2, off2, cap2, hcap, rfl, hcl⟩ := rats_cell hx l0
  have HA := Lib.hid ha
  have HC := Lib.hid hc
  clear hv hx ha hc hlen
  go_enter Try.func61, Try.ntmps61
  go_wp2
  go_loopw [7] (fun i wr => ∃ k : Nat, k ≤ c.length ∧ i = .int .i64 k ∧ Hid (∀ j, j < k → inB c l j = true) ∧ Below w.heap.size w wr) (fun i _ => c.length - (intOf i).toNat)
  case atStart => exact ⟨0, Nat.zero_le _, rfl, Lib.hid (fun j hj => by omega), Below.refl _ _⟩
  case round =>
    obtain ⟨k, hk, rfl, H, hbel⟩ := hrel
    by_cases hlt : k < c.length
    · have hlk : k < l.length := by omega
      have c1 := keep_cell hbel (hcc k hlt)
      obtain ⟨x0, d0⟩ := hcl k hlk
      have x1 := keep_cell hbel x0
      have d1 := keep_cell hbel d0
      have bd := awd_bd HA.out hlk
      have cb := HC.out.holds _ (mem_getD hlt)
      have IB : Hid (inB c l k = betw 0 (l.getD k (0, 0)).1 (c.getD k 0 * (l.getD k (0, 0)).2)) := Lib.hid rfl
      clear hcc hcl x0 d0
      generalize l.getD k (0, 0) = xd at *
      obtain ⟨x, d⟩ := xd
      simp only at x1 d1 bd IB
      generalize c.getD k 0 = cl at *
      have m1 : 0 ≤ cl * d ∧ cl * d ≤ 1000 * 1000000 := ⟨Int.mul_nonneg (by omega) (by omega), Int.mul_le_mul (by omega) (by omega) (by omega) (by omega)⟩
      have HW := Lib.hid (fun q => within_q 0 x (cl * d) wr q)
      cases hb : betw 0 x (cl * d) with
      | false =>
        have B := Lib.hid hb
        have R := Lib.hid (inAll_bad hlk (by rw [IB.out, hb]) n)
        clear hb
        go_wp2
        refine wp_region_quiet_lit (by kernel_rfl) (by kernel_rfl) ?_
        repeat (any_goals (first | go_big_quiet_step ((go_at_call 55; with_reducible exact HW.out _)) | quiet_step (fail)))
        all_goals (refine wpQuiet_nil ?_; intro _ hw'; obtain ⟨nq, hw''⟩ := hw'; subst hw'')
        rw [B.out]
        go_wp2
        go_ret
        exact ⟨ret_b R.out.symm, below_drewN hbel _⟩
      | true =>
        have B := Lib.hid hb
        have H2 : Hid (∀ j, j < k + 1 → inB c l j = true) := Lib.hid (fun j hj => by
          rcases Nat.lt_succ_iff_lt_or_eq.1 hj with h | rfl
          · exact H.out j h
          · rw [IB.out]; exact hb)
        clear hb
        go_wp2
        refine wp_region_quiet_lit (by kernel_rfl) (by kernel_rfl) ?_
        repeat (any_goals (first | go_big_quiet_step ((go_at_call 55; with_reducible exact HW.out _)) | quiet_step (fail)))
        all_goals (refine wpQuiet_nil ?_; intro _ hw'; obtain ⟨nq, hw''⟩ := hw'; subst hw'')
        rw [B.out]
        go_wp2
        go_roundw
        case rel => exact ⟨k + 1, by omega, by go_num, H2, below_drewN hbel _⟩
        case measure => simp [intOf]; omega
    · have e : k = c.length := by omega
      subst e
      have hall : ∀ j, j < l.length → inB c l j = true := fun j hj => H.out j (by omega)
      have hS := small_of HC.out HA.out hall
      have R : Hid ((modes.all fun p => okp l n p) = shB c n l) := Lib.hid ((addUp_of modes_co modes_big hS l8 hn).trans (inAll_good hall n).symm)
      have hx2 := HX.out.below hbel
      clear hall
      go_wp2_with fail
      refine (addsUp_any _ _ _ _ hx2 hS l0 l8 hn).mono ?_
      rintro e w1 ⟨rfl, hb1⟩
      go_wp2
      go_ret
      exact ⟨ret_b R.out, below_trans hbel hb1⟩

end Go.Proofs.Ytaakefjblldccaa
