/- The walk of the law FundShares. -/
import Derived.Test.YtaakefjblldccaaT
import Derived.Test.YtaakefjblldccaaLawA
namespace Go.Proofs.Ytaakefjblldccaa
open Go.RowKit

set_option maxHeartbeats 1000000 in
theorem sameRats_any (v x : Value) (l : List Rat2) (w : World) (hv : RatsAt w v l) (hx : RatsAt w x l) :
    Calls Try.prog 34 #[v, x] w fun e w' => e = .returned (.bool true) ∧ Below w.heap.size w w' := by
  obtain ⟨a, cap, rfl, hl, hq⟩ := hv
  obtain ⟨a2, cap2, rfl, hl2, hq2⟩ := hx
  clear hl2
  go_enter Try.func34, Try.ntmps34
  go_wp2
  go_loopw [5] (fun i wr => ∃ k : Nat, k ≤ l.length ∧ i = .int .i64 k ∧ Below w.heap.size w wr) (fun i _ => l.length - (intOf i).toNat)
  case atStart => exact ⟨0, Nat.zero_le _, rfl, Below.refl _ _⟩
  case round =>
    obtain ⟨k, hk, rfl, hbel⟩ := hrel
    by_cases hlt : k < l.length
    · obtain ⟨b, off, rfl, hc⟩ := hq (by omega)
      obtain ⟨b2, off2, rfl, hc2⟩ := hq2 (by omega)
      obtain ⟨x1, x2⟩ := hc k hlt
      obtain ⟨y1, y2⟩ := hc2 k hlt
      have z1 := keep_cell hbel x1
      have z2 := keep_cell hbel x2
      have u1 := keep_cell hbel y1
      have u2 := keep_cell hbel y2
      clear hc hc2 hq hq2 x1 x2 y1 y2
      generalize l.getD k (0, 0) = d at *
      obtain ⟨d1, d2⟩ := d
      simp only at z1 z2 u1 u2
      go_wp2
      refine wp_region_quiet_lit (by kernel_rfl) (by kernel_rfl) ?_
      repeat (any_goals (first | go_big_quiet_step (fail) | quiet_step (fail)))
      all_goals (refine wpQuiet_nil ?_; intro _ hw'; obtain ⟨nq, hw''⟩ := hw'; subst hw'')
      all_goals go_wp2
      go_roundw
      case rel => exact ⟨k + 1, by omega, by go_num, below_drewN hbel _⟩
      case measure => simp [intOf]; omega
    · have e : k = l.length := by omega
      subst e
      go_wp2
      go_ret
      exact ⟨rfl, hbel⟩

theorem shareV_len (c : List Int) (n r : Int) : (shareV c n r).length ≤ 9223372036854775807 := by
  unfold shareV
  split
  · rename_i h
    obtain ⟨ha, h1, h2⟩ := shareE_ok h
    obtain ⟨hc, h3, h4⟩ := askE_ok2 ha
    obtain ⟨f, Q, S⟩ := hc.shr r h3 h4
    rw [S.aw, List.length_map]
    have := hc.hi
    omega
  · simp

set_option maxHeartbeats 2000000 in
theorem FundShares_walk (v : Value) (c : List Int) (n r : Int) (w : World) (hv : IntsAt w v c) :
    Calls Try.prog 8 #[v, .int .i64 n, .int .i64 r] w fun e w' => e = .returned (.bool true) ∧ Below w.heap.size w w' := by
  have HV := Lib.hid hv
  clear hv
  by_cases h1 : 40 < c.length
  · have L : Hid (decide (40 < c.length) = true) := Lib.hid (decide_eq_true h1)
    clear h1
    go_enter Try.func8, Try.ntmps8
    go_wp2_with fail
    refine (long_any _ _ _ HV.out).mono ?_
    rintro e w' ⟨rfl, rfl⟩
    rw [L.out]
    go_wp2_with fail
    refine (sane_any _).mono ?_
    rintro e w1 ⟨rfl, hb1⟩
    go_wp2
    go_ret
    exact ⟨rfl, hb1⟩
  · have L : Hid (decide (40 < c.length) = false) := Lib.hid (decide_eq_false h1)
    clear h1
    have hl := shareV_len c n r
    go_enter Try.func8, Try.ntmps8
    go_wp2_with fail
    refine (long_any _ _ _ HV.out).mono ?_
    rintro e w' ⟨rfl, rfl⟩
    rw [L.out]
    go_wp2_with fail
    refine (Share_any _ _ _ _ _ HV.out).mono ?_
    rintro e w1 ⟨v1, rfl, ho1, hb1⟩
    have H1 := Lib.hid (ho1.at hl)
    clear ho1
    go_wp2_with fail
    refine (rShare_any _ _ _ _ _ (HV.out.below hb1)).mono ?_
    rintro e w2 ⟨v2, rfl, ho2, hb2'⟩
    have H2 := Lib.hid (ho2.at hl)
    clear ho2
    have hb2 := below_trans hb1 hb2'
    go_wp2_with fail
    refine (Missing_any _ _ _ _ (HV.out.below hb2)).mono ?_
    rintro e w' ⟨rfl, rfl⟩
    go_wp2_with fail
    refine (rMissing_any _ _ _ _ (HV.out.below hb2)).mono ?_
    rintro e w' ⟨rfl, rfl⟩
    go_wp2_with fail
    refine (valid_any _ _ _ (HV.out.below hb2)).mono ?_
    rintro e w' ⟨rfl, rfl⟩
    go_wp2_with fail
    refine (rValid_any _ _ _ (HV.out.below hb2)).mono ?_
    rintro e w' ⟨rfl, rfl⟩
    go_wp2_with fail
    refine (sameRats_any _ _ _ _ (H1.out.below hb2') H2.out).mono ?_
    rintro e w3 ⟨rfl, hb3⟩
    go_wp2_with fail
    refine (sane_any _).mono ?_
    rintro e w4 ⟨rfl, hb4⟩
    go_wp2
    go_ret
    exact ⟨rfl, below_trans hb2 (below_trans hb3 hb4)⟩

end Go.Proofs.Ytaakefjblldccaa
