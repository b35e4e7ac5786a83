/- Whether two tides have the same waves (out of the tide's texts). -/
import Derived.Test.YtbgflacfemeblaaDoorF
namespace Go.Proofs.YtbgflacfemeblaaDoor
open Go.RowKit

theorem eq_of_rows {t u : List (List Int)} (hl : t.length = u.length) (h : ∀ j, j < t.length → t.getD j [] = u.getD j []) : t = u := by
  apply List.ext_getElem hl
  intro j h1 h2
  have := h j h1
  rwa [List.getD_eq_getElem?_getD, List.getD_eq_getElem?_getD, List.getElem?_eq_getElem h1, List.getElem?_eq_getElem h2] at this

set_option maxHeartbeats 1000000 in
theorem equal_any (v x : Value) (t u : List (List Int)) (w : World) (hv : RowsAt w v t) (hu : RowsAt w x u) :
    Calls Tryd.prog 10 #[v, x] w fun e w' => e = .returned (.bool (decide (t = u))) ∧ Below w.heap.size w w' := by
  obtain ⟨a, cap, rfl, hl, hq⟩ := hv
  obtain ⟨a', cap', rfl, hl', hq'⟩ := hu
  by_cases hlen : t.length = u.length
  · have hE : ((t.length : Int) != (u.length : Int)) = false := by rw [hlen]; simp
    have HL := Lib.hid hlen
    have hle : t.length ≤ u.length := by omega
    clear hlen
    go_enter Tryd.func10, Tryd.ntmps10
    go_wp2
    go_loopw [13] (fun i wr => ∃ k : Nat, k ≤ t.length ∧ i = .int .i64 k ∧ Hid (∀ j, j < k → t.getD j [] = u.getD j []) ∧ Below w.heap.size w wr) (fun i _ => t.length - (intOf i).toNat)
    case atStart => exact ⟨0, Nat.zero_le _, rfl, fun j hj => by omega, Below.refl _ _⟩
    case round =>
      obtain ⟨k, hk, rfl, H, hbel⟩ := hrel
      by_cases hlt : k < t.length
      · obtain ⟨b, off, rfl, hc⟩ := hq (by omega)
        obtain ⟨b', off', rfl, hc'⟩ := hq' (by omega)
        obtain ⟨y, hy0, hi0⟩ := hc k hlt
        obtain ⟨y', hy0', hi0'⟩ := hc' k (by omega)
        have hy := keep_cell hbel hy0
        have hy' := keep_cell hbel hy0'
        have hi := hi0.below hbel
        have hi' := hi0'.below hbel
        have hm2 : k < u.length := by omega
        clear hc hc' hq hq' hy0 hy0' hi0 hi0'
        generalize hxx : t.getD k [] = lk at *
        generalize hyy : u.getD k [] = mk at *
        have X := Lib.hid hxx
        have Y := Lib.hid hyy
        clear hxx hyy
        have S1 := fun nq => Calls.quiet_of (n := nq) ((sameInts_q y y' lk mk _ (hi.drewN nq) (hi'.drewN nq)).mono fun _ _ h => ⟨h.1, h.2.out⟩)
        obtain ⟨ya, yc, rfl, _⟩ := id hi
        obtain ⟨ya', yc', rfl, _⟩ := id hi'
        by_cases he : lk = mk
        · have EQ := Lib.hid he
          rw [decide_eq_true he] at S1
          have H1 := Lib.hid S1
          clear he S1 hi hi'
          go_wp2
          refine wp_region_quiet_lit (by kernel_rfl) (by kernel_rfl) ?_
          repeat (any_goals (first | go_big_quiet_step ((go_at_call 18; with_reducible exact H1.out _)) | quiet_step (fail)))
          all_goals (refine wpQuiet_nil ?_; intro _ hw'; obtain ⟨nq, hw''⟩ := hw'; subst hw'')
          all_goals go_wp2
          go_roundw
          case rel => exact ⟨k + 1, by omega, by go_num, fun j hj => by
            rcases Nat.lt_succ_iff_lt_or_eq.1 hj with h | rfl
            · exact H.out j h
            · rw [X.out, Y.out]; exact EQ.out, below_drewN hbel _⟩
          case measure => simp [intOf]; omega
        · have NE : Hid (decide (t = u) = false) := decide_eq_false (fun e => he (by rw [← X.out, ← Y.out, e]))
          rw [decide_eq_false he] at S1
          have H1 := Lib.hid S1
          clear he S1 hi hi'
          go_wp2
          refine wp_region_quiet_lit (by kernel_rfl) (by kernel_rfl) ?_
          repeat (any_goals (first | go_big_quiet_step ((go_at_call 18; with_reducible exact H1.out _)) | quiet_step (fail)))
          all_goals (refine wpQuiet_nil ?_; intro _ hw'; obtain ⟨nq, hw''⟩ := hw'; subst hw'')
          all_goals go_wp2
          go_ret
          exact ⟨ret_b (by rw [NE.out]), below_drewN hbel _⟩
      · have e : k = t.length := by omega
        subst e
        have EQ : Hid (decide (t = u) = true) := decide_eq_true (eq_of_rows HL.out H.out)
        go_wp2
        go_ret
        exact ⟨ret_b (by rw [EQ.out]), hbel⟩
  · have hE : ((t.length : Int) != (u.length : Int)) = true := by rw [bne_iff_ne]; omega
    have NE : Hid (decide (t = u) = false) := decide_eq_false (fun e => hlen (by rw [e]))
    clear hlen
    go_enter Tryd.func10, Tryd.ntmps10
    go_wp2
    go_ret
    exact ⟨ret_b (by rw [NE.out]), Below.refl _ _⟩

end Go.Proofs.YtbgflacfemeblaaDoor
