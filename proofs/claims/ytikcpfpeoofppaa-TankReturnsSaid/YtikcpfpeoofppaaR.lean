/- Contracts: what is asked, of the reference: levels, deeds, After. -/
import Derived.Test.YtikcpfpeoofppaaO
import Derived.BigQuiet
namespace Go.Proofs.Ytikcpfpeoofppaa
open Go.RowKit

theorem within_q (a b c : Int) (w : World) (q : Nat) :
    Calls Try.prog 56 #[.int .i64 a, .int .i64 b, .int .i64 c] (w.drewN q) fun e w'' => e = .returned (.bool (betw a b c)) ∧ ∃ k, w'' = w.drewN k :=
  Calls.quiet_of_same ((within_any a b c (w.drewN q)).mono fun _ _ h => ⟨h.1, h.2.symm⟩)


theorem levB_bad {t l : List Int} {k : Nat} (hk : k < t.length) (h : betw 0 (l.getD k 0) (t.getD k 0) = false) : levB t l = false := by
  unfold levB
  rw [Bool.and_eq_false_iff]
  right
  rw [List.all_eq_false]
  exact ⟨k, List.mem_range.2 hk, by rw [h]; simp⟩
theorem levB_end {t l : List Int} {k : Nat} (h : ∀ j, j < k → betw 0 (l.getD j 0) (t.getD j 0) = true) (hk : ¬ (k < l.length ∧ k < t.length)) : decide (((l.length : Nat) : Int) = ((t.length : Nat) : Int)) = levB t l := by
  unfold levB
  by_cases he : l.length = t.length
  · rw [decide_eq_true (by omega), decide_eq_true he, Bool.true_and, eq_comm, List.all_eq_true]
    intro j hj
    exact h j (by have := List.mem_range.1 hj; omega)
  · rw [decide_eq_false (by omega), decide_eq_false he, Bool.false_and]

set_option maxHeartbeats 1000000 in
theorem rAreLevels_any (v y : Value) (t l : List Int) (w : World) (hv : IntsAt w v t) (hy : IntsAt w y l) :
    Calls Try.prog 46 #[v, y] w fun e w' => e = .returned (.bool (levB t l)) ∧ Below w.heap.size w w' := by
  obtain ⟨a, cap, rfl, hl, hq⟩ := hv
  obtain ⟨a2, cap2, rfl, hl2, hq2⟩ := hy
  go_enter Try.func46, Try.ntmps46
  go_wp2
  go_loopw [5] (fun i wr => ∃ k : Nat, k ≤ l.length ∧ i = .int .i64 k ∧ Hid (∀ j, j < k → betw 0 (l.getD j 0) (t.getD j 0) = true) ∧ Below w.heap.size w wr) (fun i _ => l.length - (intOf i).toNat)
  case atStart => exact ⟨0, Nat.zero_le _, rfl, Lib.hid (fun j hj => by omega), Below.refl _ _⟩
  case round =>
    obtain ⟨k, hk, rfl, H, hbel⟩ := hrel
    by_cases hlt : k < l.length
    · by_cases hlt2 : k < t.length
      · obtain ⟨b, off, rfl, hc⟩ := hq (by omega)
        obtain ⟨b2, off2, rfl, hc2⟩ := hq2 (by omega)
        have x1 := keep_cell hbel (hc k hlt2)
        have x2 := keep_cell hbel (hc2 k hlt)
        have N := Lib.hid (fun h => levB_bad (l := l) hlt2 h)
        have Y := Lib.hid (fun (h : betw 0 (l.getD k 0) (t.getD k 0) = true) => show ∀ j, j < k + 1 → betw 0 (l.getD j 0) (t.getD j 0) = true from fun j hj => by
          rcases Nat.lt_succ_iff_lt_or_eq.1 hj with h' | rfl
          · exact H.out j h'
          · exact h)
        clear hc hc2 hq hq2
        generalize l.getD k 0 = y at *
        generalize t.getD k 0 = z at *
        have HW := Lib.hid (fun q => within_q 0 y z wr q)
        cases hb : betw 0 y z with
        | true =>
          have R := Lib.hid (Y.out hb)
          have B := Lib.hid hb
          clear Y N hb
          go_wp2
          refine wp_region_quiet_lit (by kernel_rfl) (by kernel_rfl) ?_
          repeat (any_goals (first | go_big_quiet_step ((go_at_call 56; with_reducible exact HW.out _)) | quiet_step (fail)))
          all_goals (refine wpQuiet_nil ?_; intro _ hw'; obtain ⟨nq, hw''⟩ := hw'; subst hw'')
          rw [B.out]
          go_wp2
          go_roundw
          case rel => exact ⟨k + 1, by omega, by go_num, R, below_drewN hbel _⟩
          case measure => simp [intOf]; omega
        | false =>
          have R := Lib.hid (N.out hb)
          have B := Lib.hid hb
          clear Y N hb
          go_wp2
          refine wp_region_quiet_lit (by kernel_rfl) (by kernel_rfl) ?_
          repeat (any_goals (first | go_big_quiet_step ((go_at_call 56; with_reducible exact HW.out _)) | quiet_step (fail)))
          all_goals (refine wpQuiet_nil ?_; intro _ hw'; obtain ⟨nq, hw''⟩ := hw'; subst hw'')
          rw [B.out]
          go_wp2
          go_ret
          exact ⟨ret_b R.out.symm, below_drewN hbel _⟩
      · have E := Lib.hid (levB_end (t := t) H.out (fun h => hlt2 h.2))
        go_wp2
        go_ret
        exact ⟨ret_b E.out, hbel⟩
    · have E := Lib.hid (levB_end (t := t) H.out (fun h => hlt h.1))
      obtain rfl : k = l.length := by omega
      go_wp2
      go_ret
      exact ⟨ret_b E.out, hbel⟩

theorem askE_one (t l : List Int) : askE t [l] = if tvl t then (if levB t l then 0 else 41) else 40 := by unfold askE; simp

set_option maxHeartbeats 1000000 in
theorem rAsked_any (v y : Value) (t l : List Int) (w : World) (hv : IntsAt w v t) (hy : IntsAt w y l) :
    Calls Try.prog 69 #[v, y] w fun e w' => e = .returned (.int .i64 (askE t [l])) ∧ Below w.heap.size w w' := by
  have V := Lib.hid (rValid_any v t w hv)
  have C := Lib.hid (rAreLevels_any v y t l w hv hy)
  have A := Lib.hid (askE_one t l)
  generalize askE t [l] = ae at *
  obtain ⟨_, _, rfl, _⟩ := hv
  obtain ⟨_, _, rfl, _⟩ := hy
  cases h1 : tvl t with
  | false =>
    rw [h1] at V A
    go_enter Try.func69, Try.ntmps69
    go_wp2_with (go_at_call 39; refine V.out.mono ?_; rintro e w' ⟨rfl, rfl⟩)
    go_ret
    exact ⟨ret_i A.out.symm, Below.refl _ _⟩
  | true =>
    cases h2 : levB t l with
    | false =>
      rw [h1, h2] at A
      rw [h1] at V
      rw [h2] at C
      go_enter Try.func69, Try.ntmps69
      go_wp2_with (first | (go_at_call 39; refine V.out.mono ?_; rintro e w' ⟨rfl, rfl⟩) | (go_at_call 46; refine C.out.mono ?_; rintro e w' ⟨rfl, hb⟩))
      go_ret
      exact ⟨ret_i A.out.symm, hb⟩
    | true =>
      rw [h1, h2] at A
      rw [h1] at V
      rw [h2] at C
      go_enter Try.func69, Try.ntmps69
      go_wp2_with (first | (go_at_call 39; refine V.out.mono ?_; rintro e w' ⟨rfl, rfl⟩) | (go_at_call 46; refine C.out.mono ?_; rintro e w' ⟨rfl, hb⟩))
      go_ret
      exact ⟨ret_i A.out.symm, hb⟩

end Go.Proofs.Ytikcpfpeoofppaa
