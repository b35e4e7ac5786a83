/- Contracts: whether two lists of deeds are the same; the measure; the sanity check. -/
import Derived.Test.YtikcpfpeoofppaaB
namespace Go.Proofs.Ytikcpfpeoofppaa
open Go.RowKit

theorem list_eq_of {l m : List Deed} (hl : l.length = m.length) (h : ∀ j, j < l.length → l.getD j noDeed = m.getD j noDeed) : l = m := by
  apply List.ext_getElem hl
  intro j h1 h2
  have := h j h1
  rwa [List.getD_eq_getElem?_getD, List.getD_eq_getElem?_getD, List.getElem?_eq_getElem h1, List.getElem?_eq_getElem h2] at this


set_option maxHeartbeats 1000000 in
theorem sameDeeds_any (v x : Value) (l m : List Deed) (w : World) (hv : DeedsAt w v l) (hx : DeedsAt w x m) :
    Calls Try.prog 19 #[v, x] w fun e w' => e = .returned (.bool (decide (l = m))) ∧ Below w.heap.size w w' := by
  obtain ⟨a, cap, rfl, hl, hq⟩ := hv
  obtain ⟨a2, cap2, rfl, hl2, hq2⟩ := hx
  by_cases hlen : l.length = m.length
  · have HL := Lib.hid hlen
    rw [← hlen] at hq2 ⊢
    clear hlen hl2
    go_enter Try.func19, Try.ntmps19
    go_wp2
    go_loopw [5] (fun i wr => ∃ k : Nat, k ≤ l.length ∧ i = .int .i64 k ∧ Hid (∀ j, j < k → l.getD j noDeed = m.getD j noDeed) ∧ Below w.heap.size w wr) (fun i _ => l.length - (intOf i).toNat)
    case atStart => exact ⟨0, Nat.zero_le _, rfl, Lib.hid (fun j hj => by omega), Below.refl _ _⟩
    case round =>
      obtain ⟨k, hk, rfl, H, hbel⟩ := hrel
      by_cases hlt : k < l.length
      · obtain ⟨b, off, rfl, hc⟩ := hq (by omega)
        obtain ⟨b2, off2, rfl, hc2⟩ := hq2 (by omega)
        obtain ⟨x1, x2, x3⟩ := hc k hlt
        obtain ⟨y1, y2, y3⟩ := hc2 k hlt
        have z1 := keep_cell hbel x1
        have z2 := keep_cell hbel x2
        have z3 := keep_cell hbel x3
        have u1 := keep_cell hbel y1
        have u2 := keep_cell hbel y2
        have u3 := keep_cell hbel y3
        clear hc hc2 hq hq2 x1 x2 x3 y1 y2 y3
        generalize hd : l.getD k noDeed = d at *
        generalize he : m.getD k noDeed = e at *
        obtain ⟨d1, d2, d3⟩ := d
        obtain ⟨e1, e2, e3⟩ := e
        have D := Lib.hid hd
        have E := Lib.hid he
        clear hd he
        simp only at z1 z2 z3 u1 u2 u3
        by_cases q1 : d1 = e1
        · subst q1
          by_cases q2 : d2 = e2
          · subst q2
            by_cases q3 : d3 = e3
            · subst q3
              have H2 : Hid (∀ j, j < k + 1 → l.getD j noDeed = m.getD j noDeed) := Lib.hid (fun j hj => by
                rcases Nat.lt_succ_iff_lt_or_eq.1 hj with h | rfl
                · exact H.out j h
                · rw [D.out, E.out])
              go_wp2
              refine wp_region_quiet_lit (by kernel_rfl) (by kernel_rfl) ?_
              repeat (any_goals (first | go_big_quiet_step (fail) | quiet_step (fail)))
              all_goals (refine wpQuiet_nil ?_; intro _ hw'; obtain ⟨nq, hw''⟩ := hw'; subst hw'')
              all_goals go_wp2
              go_roundw
              case rel => exact ⟨k + 1, by omega, by go_num, H2, below_drewN hbel _⟩
              case measure => simp [intOf]; omega
            · have N : Hid (decide (l = m) = false) := Lib.hid (decide_eq_false (fun h => by have := D.out; rw [h, E.out] at this; simp at this; omega))
              have hne := beq_eq_false_iff_ne.2 q3
              clear q3
              go_wp2
              refine wp_region_quiet_lit (by kernel_rfl) (by kernel_rfl) ?_
              repeat (any_goals (first | go_big_quiet_step (fail) | quiet_step (fail)))
              all_goals (refine wpQuiet_nil ?_; intro _ hw'; obtain ⟨nq, hw''⟩ := hw'; subst hw'')
              all_goals go_wp2
              go_ret
              exact ⟨ret_b N.out.symm, below_drewN hbel _⟩
          · have N : Hid (decide (l = m) = false) := Lib.hid (decide_eq_false (fun h => by have := D.out; rw [h, E.out] at this; simp at this; omega))
            have hne := beq_eq_false_iff_ne.2 q2
            clear q2
            go_wp2
            refine wp_region_quiet_lit (by kernel_rfl) (by kernel_rfl) ?_
            repeat (any_goals (first | go_big_quiet_step (fail) | quiet_step (fail)))
            all_goals (refine wpQuiet_nil ?_; intro _ hw'; obtain ⟨nq, hw''⟩ := hw'; subst hw'')
            all_goals go_wp2
            go_ret
            exact ⟨ret_b N.out.symm, below_drewN hbel _⟩
        · have N : Hid (decide (l = m) = false) := Lib.hid (decide_eq_false (fun h => by have := D.out; rw [h, E.out] at this; simp at this; omega))
          have hne := beq_eq_false_iff_ne.2 q1
          clear q1
          go_wp2
          refine wp_region_quiet_lit (by kernel_rfl) (by kernel_rfl) ?_
          repeat (any_goals (first | go_big_quiet_step (fail) | quiet_step (fail)))
          all_goals (refine wpQuiet_nil ?_; intro _ hw'; obtain ⟨nq, hw''⟩ := hw'; subst hw'')
          all_goals go_wp2
          go_ret
          exact ⟨ret_b N.out.symm, below_drewN hbel _⟩
      · have e : k = l.length := by omega
        subst e
        have N : Hid (decide (l = m) = true) := Lib.hid (decide_eq_true (list_eq_of HL.out H.out))
        go_wp2
        go_ret
        exact ⟨ret_b N.out.symm, hbel⟩
  · have N : Hid (decide (l = m) = false) := Lib.hid (decide_eq_false (fun h => hlen (by rw [h])))
    have hb : (((l.length : Nat) : Int) != ((m.length : Nat) : Int)) = true := by rw [bne_iff_ne]; omega
    clear hlen hq hq2
    go_enter Try.func19, Try.ntmps19
    go_wp2
    go_ret
    exact ⟨ret_b N.out.symm, Below.refl _ _⟩

end Go.Proofs.Ytikcpfpeoofppaa
