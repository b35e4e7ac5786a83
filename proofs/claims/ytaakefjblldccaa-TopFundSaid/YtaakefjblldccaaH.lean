/- Contracts: AreAwards of the reference; the first error of awards, of both. -/
import Derived.Test.YtaakefjblldccaaG
namespace Go.Proofs.Ytaakefjblldccaa
open Go.RowKit

/-- As many awards as claims, each as described. -/
def arA (c : List Int) (l : List Rat2) : Bool := (l.length == c.length) && !l.any noawd

theorem arA_bad {c : List Int} {l : List Rat2} {k : Nat} (hk : k < l.length) (h : noawd (l.getD k (0, 0)) = true) : arA c l = false := by
  unfold arA
  have : l.any noawd = true := List.any_eq_true.2 ⟨_, getD_mem2 hk, h⟩
  rw [this]; simp
theorem arA_good {c : List Int} {l : List Rat2} (h : ∀ j, j < l.length → noawd (l.getD j (0, 0)) = false) : arA c l = (l.length == c.length) := by
  unfold arA
  have : l.any noawd = false := List.any_eq_false.2 fun x hx => by
    obtain ⟨i, hi, rfl⟩ := List.getElem_of_mem hx
    have := h i hi
    rw [List.getD_eq_getElem?_getD, List.getElem?_eq_getElem hi] at this
    simpa using this
  rw [this]; simp
theorem arA_long {c : List Int} {l : List Rat2} (h : l.length ≠ c.length) : arA c l = false := by
  unfold arA
  rw [beq_eq_false_iff_ne.2 h]; rfl

set_option maxHeartbeats 1000000 in
theorem rAreAwards_any (v x : Value) (c : List Int) (l : List Rat2) (w : World) (hv : IntsAt w v c) (hx : RatsAt w x l) :
    Calls Try.prog 60 #[v, x] w fun e w' => e = .returned (.bool (arA c l)) ∧ w = w' := by
  obtain ⟨ca, ccap, rfl, hcl, _⟩ := hv
  obtain ⟨a, cap, rfl, hl, hq⟩ := hx
  go_enter Try.func60, Try.ntmps60
  go_wp2
  go_loop [5] (fun i => ∃ k : Nat, k ≤ l.length ∧ k ≤ c.length + 1 ∧ i = .int .i64 k ∧ Hid (∀ j, j < k → noawd (l.getD j (0, 0)) = false)) (fun i => l.length - (intOf i).toNat)
  case atStart => exact ⟨0, Nat.zero_le _, by omega, rfl, Lib.hid (fun j hj => by omega)⟩
  case round =>
    obtain ⟨k, hk, hkc, rfl, HN⟩ := hrel
    by_cases hlt : k < l.length
    · by_cases hle : k ≤ c.length
      · obtain ⟨b, off, rfl, hc⟩ := hq (by omega)
        obtain ⟨x1, d1⟩ := hc k hlt
        clear hc hq
        generalize hx : l.getD k (0, 0) = xd at *
        obtain ⟨n, d⟩ := xd
        simp only at x1 d1
        have X := Lib.hid hx
        clear hx
        cases hb : betw (-1000000000) n 1000000000 with
        | false =>
          have B := Lib.hid hb
          clear hb
          have R := Lib.hid (arA_bad (c := c) hlt (by rw [X.out]; unfold noawd awd; rw [B.out]; rfl))
          go_wp2_with fail
          refine (within_any _ _ _ _).mono ?_
          rintro e w' ⟨rfl, rfl⟩
          rw [B.out]
          go_wp2
          go_ret
          exact ⟨ret_b R.out.symm, rfl⟩
        | true =>
          have B := Lib.hid hb
          clear hb
          cases hd : betw 1 d 1000000 with
          | false =>
            have D := Lib.hid hd
            clear hd
            have R := Lib.hid (arA_bad (c := c) hlt (by rw [X.out]; unfold noawd awd; rw [B.out, D.out]; rfl))
            go_wp2_with fail
            refine (within_any _ _ _ _).mono ?_
            rintro e w' ⟨rfl, rfl⟩
            rw [B.out]
            go_wp2_with fail
            refine (within_any _ _ _ _).mono ?_
            rintro e w' ⟨rfl, rfl⟩
            rw [D.out]
            go_wp2
            go_ret
            exact ⟨ret_b R.out.symm, rfl⟩
          | true =>
            have D := Lib.hid hd
            clear hd
            go_wp2_with fail
            refine (within_any _ _ _ _).mono ?_
            rintro e w' ⟨rfl, rfl⟩
            rw [B.out]
            go_wp2_with fail
            refine (within_any _ _ _ _).mono ?_
            rintro e w' ⟨rfl, rfl⟩
            rw [D.out]
            go_wp2
            go_round
            case rel => exact ⟨k + 1, by omega, by omega, by go_num, Lib.hid (fun j hj => by
              rcases Nat.lt_succ_iff_lt_or_eq.1 hj with h | rfl
              · exact HN.out j h
              · rw [X.out]; unfold noawd awd; rw [B.out, D.out]; rfl)⟩
            case measure => simp [intOf]; omega
      · have R := Lib.hid (arA_long (c := c) (l := l) (by omega))
        have hb : (((l.length : Nat) : Int) == ((c.length : Nat) : Int)) = false := by rw [beq_eq_false_iff_ne]; omega
        go_wp2
        go_ret
        exact ⟨ret_b R.out.symm, rfl⟩
    · have e : k = l.length := by omega
      subst e
      have R := Lib.hid (arA_good (c := c) HN.out)
      cases hb : (l.length == c.length) with
      | true =>
        have hb' : (((l.length : Nat) : Int) == ((c.length : Nat) : Int)) = true := by rw [beq_iff_eq] at hb ⊢; omega
        have B := Lib.hid hb
        clear hb
        go_wp2
        go_ret
        exact ⟨ret_b (by rw [R.out, B.out]), rfl⟩
      | false =>
        have hb' : (((l.length : Nat) : Int) == ((c.length : Nat) : Int)) = false := by rw [beq_eq_false_iff_ne] at hb ⊢; omega
        have B := Lib.hid hb
        clear hb
        go_wp2
        go_ret
        exact ⟨ret_b (by rw [R.out, B.out]), rfl⟩

end Go.Proofs.Ytaakefjblldccaa
