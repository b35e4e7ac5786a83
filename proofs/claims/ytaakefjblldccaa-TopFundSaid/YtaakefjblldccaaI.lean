/- Contracts: whether awards share an estate, of both. -/
import Derived.Test.YtaakefjblldccaaH
namespace Go.Proofs.Ytaakefjblldccaa
open Go.RowKit

/-- Each award is from 0 to its claim. -/
def inB (c : List Int) (l : List Rat2) (k : Nat) : Bool := decide (0 ≤ (l.getD k (0, 0)).1) && decide ((l.getD k (0, 0)).1 ≤ c.getD k 0 * (l.getD k (0, 0)).2)
def inAll (c : List Int) (l : List Rat2) : Bool := (List.range l.length).all (inB c l)
/-- Awards share an estate. -/
def shB (c : List Int) (n : Int) (l : List Rat2) : Bool := inAll c l && addUp l n

theorem awd_bd {c : List Int} {l : List Rat2} (h : arA c l = true) {k : Nat} (hk : k < l.length) : -1000000000 ≤ (l.getD k (0, 0)).1 ∧ (l.getD k (0, 0)).1 ≤ 1000000000 ∧ 1 ≤ (l.getD k (0, 0)).2 ∧ (l.getD k (0, 0)).2 ≤ 1000000 := by
  unfold arA at h
  rw [Bool.and_eq_true, Bool.not_eq_true', List.any_eq_false] at h
  have := h.2 _ (getD_mem2 hk)
  simp only [noawd, awd, Bool.not_eq_true', Bool.not_eq_false, Bool.and_eq_true, betw_iff] at this
  omega

theorem small_of {c : List Int} {l : List Rat2} (hc : Cvl c) (h : arA c l = true) (hi : ∀ k, k < l.length → inB c l k = true) : Small l := fun x hx => by
  obtain ⟨k, hk, rfl⟩ := List.getElem_of_mem hx
  have e : l.getD k (0, 0) = l[k] := by rw [List.getD_eq_getElem?_getD, List.getElem?_eq_getElem hk]; rfl
  have b := awd_bd h hk
  have i := hi k hk
  unfold inB at i
  rw [e] at b i
  rw [Bool.and_eq_true, decide_eq_true_eq, decide_eq_true_eq] at i
  have hl : l.length = c.length := by
    unfold arA at h
    rw [Bool.and_eq_true, beq_iff_eq] at h
    exact h.1
  have hck := hc.holds _ (mem_getD (show k < c.length by omega))
  have h2 : c.getD k 0 * (l[k]).2 ≤ 1000 * (l[k]).2 := Int.mul_le_mul_of_nonneg_right hck.2 (by omega)
  exact ⟨i.1, by omega, by omega, by omega⟩

theorem inAll_bad {c : List Int} {l : List Rat2} {k : Nat} (hk : k < l.length) (h : inB c l k = false) (n : Int) : shB c n l = false := by
  have : inAll c l = false := by
    unfold inAll
    rw [List.all_eq_false]
    exact ⟨k, List.mem_range.2 hk, by rw [h]; decide⟩
  unfold shB
  rw [this]; rfl
theorem inAll_good {c : List Int} {l : List Rat2} (h : ∀ k, k < l.length → inB c l k = true) (n : Int) : shB c n l = addUp l n := by
  have : inAll c l = true := by
    unfold inAll
    rw [List.all_eq_true]
    exact fun k hk => h k (List.mem_range.1 hk)
  unfold shB
  rw [this]; rfl

set_option maxHeartbeats 2000000 in
theorem shares_any (v x : Value) (c : List Int) (l : List Rat2) (n : Int) (w : World) (hv : IntsAt w v c) (hx : RatsAt w x l) (hc : Cvl c) (ha : arA c l = true) (hn : 0 ≤ n ∧ n ≤ 8000) :
    Calls Try.prog 58 #[v, .int .i64 n, x] w fun e w' => e = .returned (.bool (shB c n l)) ∧ Below w.heap.size w w' := by
  have hlen : l.length = c.length := by
    unfold arA at ha
    rw [Bool.and_eq_true, beq_iff_eq] at ha
    exact ha.1
  have hlo := hc.lo
  have hhi := hc.hi
  have HX := Lib.hid hx
  have l8 : l.length ≤ 8 := by omega
  have l0 : 0 < l.length := by omega
  have lc : l.length ≤ c.length := by omega
  obtain ⟨b, off, cap, rfl, hcc⟩ := ints_cell hv (by omega)
  obtain ⟨b2, off2, cap2, hcap, rfl, hcl⟩ := rats_cell hx l0
  have HA := Lib.hid ha
  have HC := Lib.hid hc
  clear hv hx ha hc hlen
  go_enter Try.func58, Try.ntmps58
  go_wp2
  go_loopw [11] (fun i wr => ∃ k : Nat, k ≤ l.length ∧ i = .int .i64 k ∧ Hid (∀ j, j < k → inB c l j = true) ∧ Below w.heap.size w wr) (fun i _ => l.length - (intOf i).toNat)
  case atStart => exact ⟨0, Nat.zero_le _, rfl, Lib.hid (fun j hj => by omega), Below.refl _ _⟩
  case round =>
    obtain ⟨k, hk, rfl, H, hbel⟩ := hrel
    by_cases hlt : k < l.length
    · have c1 := keep_cell hbel (hcc k (by omega))
      obtain ⟨x0, d0⟩ := hcl k hlt
      have x1 := keep_cell hbel x0
      have d1 := keep_cell hbel d0
      have bd := awd_bd HA.out hlt
      have cb := HC.out.holds _ (mem_getD (show k < c.length by omega))
      have IB : Hid (inB c l k = (decide (0 ≤ (l.getD k (0, 0)).1) && decide ((l.getD k (0, 0)).1 ≤ c.getD k 0 * (l.getD k (0, 0)).2))) := Lib.hid rfl
      have hsz := hbel.size
      have hkc : k < c.length := by omega
      have hbl : b < wr.heap.size := World.block_lt_of_cell? _ _ c1
      clear hcc hcl x0 d0
      generalize l.getD k (0, 0) = xd at *
      obtain ⟨x, d⟩ := xd
      simp only at x1 d1 bd IB
      generalize c.getD k 0 = cl at *
      have m1 : 0 ≤ cl * d ∧ cl * d ≤ 1000 * 1000000 := ⟨Int.mul_nonneg (by omega) (by omega), Int.mul_le_mul (by omega) (by omega) (by omega) (by omega)⟩
      by_cases h1 : x < 0
      · have e1 : decide (x < 0) = true := decide_eq_true h1
        have R := Lib.hid (inAll_bad hlt (by rw [IB.out, decide_eq_false (by omega)]; rfl) n)
        go_wp2
        refine wp_region_quiet_lit (by kernel_rfl) (by kernel_rfl) ?_
        repeat (any_goals (first | go_big_quiet_step (fail) | quiet_step (fail)))
        all_goals (refine wpQuiet_nil ?_; intro _ hw'; obtain ⟨nq, hw''⟩ := hw'; subst hw'')
        all_goals go_wp2
        go_ret
        exact ⟨ret_b R.out.symm, below_drewN (hbel.alloc hsz _) _⟩
      · have e1 : decide (x < 0) = false := decide_eq_false h1
        by_cases h2 : cl * d < x
        · have e2 : decide (cl * d < x) = true := decide_eq_true h2
          have R := Lib.hid (inAll_bad hlt (by rw [IB.out, decide_eq_false (show ¬ x ≤ cl * d by omega), Bool.and_false]) n)
          go_wp2
          refine wp_region_quiet_lit (by kernel_rfl) (by kernel_rfl) ?_
          repeat (any_goals (first | go_big_quiet_step (fail) | quiet_step (fail)))
          all_goals (refine wpQuiet_nil ?_; intro _ hw'; obtain ⟨nq, hw''⟩ := hw'; subst hw'')
          all_goals go_wp2
          go_ret
          exact ⟨ret_b R.out.symm, below_drewN (hbel.alloc hsz _) _⟩
        · have e2 : decide (cl * d < x) = false := decide_eq_false h2
          have H2 : Hid (∀ j, j < k + 1 → inB c l j = true) := Lib.hid (fun j hj => by
            rcases Nat.lt_succ_iff_lt_or_eq.1 hj with h | rfl
            · exact H.out j h
            · rw [IB.out, decide_eq_true (by omega), decide_eq_true (by omega)]; rfl)
          go_wp2
          refine wp_region_quiet_lit (by kernel_rfl) (by kernel_rfl) ?_
          repeat (any_goals (first | go_big_quiet_step (fail) | quiet_step (fail)))
          all_goals (refine wpQuiet_nil ?_; intro _ hw'; obtain ⟨nq, hw''⟩ := hw'; subst hw'')
          all_goals go_wp2
          go_roundw
          case rel => exact ⟨k + 1, by omega, by go_num, H2, below_drewN (hbel.alloc hsz _) _⟩
          case measure => simp [intOf]; omega
    · have e : k = l.length := by omega
      subst e
      have hS := small_of HC.out HA.out H.out
      have R : Hid ((primes.all fun p => okp l n p) = shB c n l) := Lib.hid ((addUp_of primes_co primes_big hS l8 hn).trans (inAll_good H.out n).symm)
      have hx2 := HX.out.below hbel
      go_wp2_with fail
      refine (adds_any _ _ _ _ hx2 hS l0 l8 hn).mono ?_
      rintro e w1 ⟨rfl, hb1⟩
      go_wp2
      go_ret
      exact ⟨ret_b R.out, below_trans hbel hb1⟩

end Go.Proofs.Ytaakefjblldccaa
