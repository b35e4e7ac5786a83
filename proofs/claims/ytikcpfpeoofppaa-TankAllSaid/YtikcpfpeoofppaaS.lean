/- Contracts: deeds, After and Does of the reference. -/
import Derived.Test.YtikcpfpeoofppaaR
import Derived.Test.YtikcpfpeoofppaaQ
namespace Go.Proofs.Ytikcpfpeoofppaa
open Go.RowKit

instance (n : Nat) (d : Deed) : Decidable (IsD n d) := by unfold IsD; infer_instance


set_option maxHeartbeats 2000000 in
theorem isDeed_any (v : Value) (t : List Int) (d : Deed) (w : World) (hv : IntsAt w v t) (ht : t.length ≤ 4) :
    Calls Try.prog 91 #[v, deedV d] w fun e w' => e = .returned (.bool (decide (IsD t.length d))) ∧ Below w.heap.size w w' := by
  obtain ⟨a, cap, rfl, _⟩ := hv
  obtain ⟨d1, d2, d3⟩ := d
  have hB1 := (Below.refl w.heap.size w).alloc (Nat.le_refl _) (.cells #[.int .i64 d1, .int .i64 d2, .int .i64 d3] 43)
  simp only [deedV]
  have J : Hid (decide (IsD t.length (d1, d2, d3)) = decide ((d1 = 1 ∨ d1 = 2) ∧ d2 = 0 ∧ 0 ≤ d3 ∧ d3 < (t.length : Int) ∨ d1 = 3 ∧ 0 ≤ d2 ∧ d2 < (t.length : Int) ∧ 0 ≤ d3 ∧ d3 < (t.length : Int) ∧ d2 ≠ d3)) := Lib.hid rfl
  generalize hid : decide (IsD t.length (d1, d2, d3)) = bb at *
  clear hid
  cases h1 : betw 0 d3 ((t.length : Int) - 1) with
  | false =>
    have B1 := Lib.hid h1
    have B2 := B1
    have R := Lib.hid (show bb = false by
      rw [J.out, decide_eq_false]
      have : ¬ (0 ≤ d3 ∧ d3 ≤ (t.length : Int) - 1) := fun h => by have := (betw_iff _ _ _).2 h; rw [h1] at this; cases this
      omega)
    clear h1 J
    go_enter Try.func91, Try.ntmps91
    go_wp2_with (go_at_call 56; refine (within_any _ _ _ _).mono ?_; rintro e w' ⟨rfl, rfl⟩; first | rw [B1.out] | rw [B2.out])
    go_ret
    exact ⟨ret_b R.out.symm, hB1⟩
  | true =>
    have B1 := Lib.hid h1
    have h1' := (betw_iff _ _ _).1 h1
    clear h1
    by_cases e12 : d1 = 1 ∨ d1 = 2
    · have B2 := B1
      have R := Lib.hid (show decide (d2 = 0) = bb by
        rw [J.out, Bool.eq_iff_iff, decide_eq_true_iff, decide_eq_true_iff]
        omega)
      clear J h1'
      rcases e12 with rfl | rfl
      · go_enter Try.func91, Try.ntmps91
        go_wp2_with (go_at_call 56; refine (within_any _ _ _ _).mono ?_; rintro e w' ⟨rfl, rfl⟩; first | rw [B1.out] | rw [B2.out])
        go_ret
        exact ⟨ret_b R.out, hB1⟩
      · go_enter Try.func91, Try.ntmps91
        go_wp2_with (go_at_call 56; refine (within_any _ _ _ _).mono ?_; rintro e w' ⟨rfl, rfl⟩; first | rw [B1.out] | rw [B2.out])
        go_ret
        exact ⟨ret_b R.out, hB1⟩
    · have n1 : ¬ d1 = 1 := fun h => e12 (.inl h)
      have n2 : ¬ d1 = 2 := fun h => e12 (.inr h)
      by_cases e3 : d1 = 3
      · subst e3
        cases h2 : betw 0 d2 ((t.length : Int) - 1) with
        | false =>
          have B2 := Lib.hid h2
          have R := Lib.hid (show false = bb by
            rw [J.out, eq_comm, decide_eq_false]
            have : ¬ (0 ≤ d2 ∧ d2 ≤ (t.length : Int) - 1) := fun h => by have := (betw_iff _ _ _).2 h; rw [h2] at this; cases this
            omega)
          clear J h1' h2 e12 n1 n2
          go_enter Try.func91, Try.ntmps91
          go_wp2_with (go_at_call 56; refine (within_any _ _ _ _).mono ?_; rintro e w' ⟨rfl, rfl⟩; first | rw [B1.out] | rw [B2.out])
          go_ret
          exact ⟨ret_b R.out, hB1⟩
        | true =>
          have B2 := Lib.hid h2
          have h2' := (betw_iff _ _ _).1 h2
          have R := Lib.hid (show (d2 != d3) = bb by
            rw [J.out, Bool.eq_iff_iff, decide_eq_true_iff, bne_iff_ne]
            omega)
          clear J h1' h2 h2' e12 n1 n2
          go_enter Try.func91, Try.ntmps91
          go_wp2_with (go_at_call 56; refine (within_any _ _ _ _).mono ?_; rintro e w' ⟨rfl, rfl⟩; first | rw [B1.out] | rw [B2.out])
          go_ret
          exact ⟨ret_b R.out, hB1⟩
      · have B2 := B1
        have R := Lib.hid (show false = bb by
          rw [J.out, eq_comm, decide_eq_false]
          omega)
        have q1 := beq_eq_false_iff_ne.2 n1
        have q2 := beq_eq_false_iff_ne.2 n2
        have q3 := beq_eq_false_iff_ne.2 e3
        clear J h1' e12 n1 n2 e3
        go_enter Try.func91, Try.ntmps91
        go_wp2_with (go_at_call 56; refine (within_any _ _ _ _).mono ?_; rintro e w' ⟨rfl, rfl⟩; first | rw [B1.out] | rw [B2.out])
        go_ret
        exact ⟨ret_b R.out, hB1⟩

theorem areD_bad {n : Nat} {l : List Deed} {k : Nat} (hk : k < l.length) (h : ¬ IsD n (l.getD k noDeed)) : areD n l = false := by
  cases hb : areD n l with
  | false => rfl
  | true => exact absurd (isD_at hb hk) h
theorem areD_end {n : Nat} {l : List Deed} {k : Nat} (h : ∀ j, j < k → IsD n (l.getD j noDeed)) (hk : ¬ (k < l.length ∧ k ≤ 200)) : decide (((l.length : Nat) : Int) ≤ 200) = areD n l := by
  rw [Bool.eq_iff_iff, decide_eq_true_iff, areD_iff]
  constructor
  · intro hl
    refine ⟨by omega, fun d hd => ?_⟩
    obtain ⟨i, hi, rfl⟩ := List.getElem_of_mem hd
    have := h i (by omega)
    rwa [List.getD_eq_getElem?_getD, List.getElem?_eq_getElem hi] at this
  · intro hl
    omega

set_option maxHeartbeats 1000000 in
theorem rAreDeeds_any (v x : Value) (t : List Int) (l : List Deed) (w : World) (hv : IntsAt w v t) (ht : t.length ≤ 4) (hx : DeedsAt w x l) :
    Calls Try.prog 78 #[v, x] w fun e w' => e = .returned (.bool (areD t.length l)) ∧ Below w.heap.size w w' := by
  have V := Lib.hid hv
  obtain ⟨a0, cap0, rfl, _⟩ := hv
  obtain ⟨a, cap, rfl, hl, hq⟩ := hx
  go_enter Try.func78, Try.ntmps78
  go_wp2
  go_loopw [5] (fun i wr => ∃ k : Nat, k ≤ l.length ∧ k ≤ 201 ∧ i = .int .i64 k ∧ Hid (∀ j, j < k → IsD t.length (l.getD j noDeed)) ∧ Below w.heap.size w wr) (fun i _ => l.length - (intOf i).toNat)
  case atStart => exact ⟨0, Nat.zero_le _, by omega, rfl, Lib.hid (fun j hj => by omega), Below.refl _ _⟩
  case round =>
    obtain ⟨k, hk, hk1, rfl, H, hbel⟩ := hrel
    by_cases hlt : k < l.length
    · by_cases h200 : k ≤ 200
      · obtain ⟨b, off, rfl, hc⟩ := hq (by omega)
        obtain ⟨x1, x2, x3⟩ := hc k hlt
        have z1 := keep_cell hbel x1
        have z2 := keep_cell hbel x2
        have z3 := keep_cell hbel x3
        have C := Lib.hid (isDeed_any _ t (l.getD k noDeed) wr (V.out.below hbel) ht)
        have N := Lib.hid (fun h => areD_bad (n := t.length) hlt h)
        have Y := Lib.hid (fun (h : IsD t.length (l.getD k noDeed)) => show ∀ j, j < k + 1 → IsD t.length (l.getD j noDeed) from fun j hj => by
          rcases Nat.lt_succ_iff_lt_or_eq.1 hj with h' | rfl
          · exact H.out j h'
          · exact h)
        clear hc hq x1 x2 x3
        generalize l.getD k noDeed = d at *
        obtain ⟨d1, d2, d3⟩ := d
        simp only at z1 z2 z3
        simp only [deedV] at C
        by_cases hd : IsD t.length (d1, d2, d3)
        · have R := Lib.hid (Y.out hd)
          rw [decide_eq_true hd] at C
          clear Y N hd
          go_wp2_with fail
          refine C.out.mono ?_
          rintro e w1 ⟨rfl, hb1⟩
          go_wp2
          go_roundw
          case rel => exact ⟨k + 1, by omega, by omega, by go_num, R, hbel.trans (hb1.mono hbel.size)⟩
          case measure => simp [intOf]; omega
        · have R := Lib.hid (N.out hd)
          rw [decide_eq_false hd] at C
          clear Y N hd
          go_wp2_with fail
          refine C.out.mono ?_
          rintro e w1 ⟨rfl, hb1⟩
          go_wp2
          go_ret
          exact ⟨ret_b R.out.symm, hbel.trans (hb1.mono hbel.size)⟩
      · have E := Lib.hid (areD_end H.out (fun h => h200 h.2))
        go_wp2
        go_ret
        exact ⟨ret_b E.out, hbel⟩
    · have E := Lib.hid (areD_end H.out (fun h => hlt h.1))
      obtain rfl : k = l.length := by omega
      go_wp2
      go_ret
      exact ⟨ret_b E.out, hbel⟩

end Go.Proofs.Ytikcpfpeoofppaa
