/- The walk of the law FundWholes. -/
import Derived.Test.YtaakefjblldccaaWy
import Derived.Test.YtaakefjblldccaaLawA
namespace Go.Proofs.Ytaakefjblldccaa
open Go.RowKit

set_option maxHeartbeats 1000000 in
theorem sameInts_any (v x : Value) (l : List Int) (w : World) (hv : IntsAt w v l) (hx : IntsAt w x l) :
    Calls Try.prog 33 #[v, x] w fun e w' => e = .returned (.bool true) ∧ Below w.heap.size w w' := by
  obtain ⟨a, cap, rfl, hl, hq⟩ := hv
  obtain ⟨a2, cap2, rfl, hl2, hq2⟩ := hx
  clear hl2
  go_enter Try.func33, Try.ntmps33
  go_wp2
  go_loopw [5] (fun i wr => ∃ k : Nat, k ≤ l.length ∧ i = .int .i64 k ∧ Below w.heap.size w wr) (fun i _ => l.length - (intOf i).toNat)
  case atStart => exact ⟨0, Nat.zero_le _, rfl, Below.refl _ _⟩
  case round =>
    obtain ⟨k, hk, rfl, hbel⟩ := hrel
    by_cases hlt : k < l.length
    · obtain ⟨b, off, rfl, hc⟩ := hq (by omega)
      obtain ⟨b2, off2, rfl, hc2⟩ := hq2 (by omega)
      have z1 := keep_cell hbel (hc k hlt)
      have u1 := keep_cell hbel (hc2 k hlt)
      clear hc hc2 hq hq2
      generalize l.getD k 0 = d at *
      go_wp2
      refine wp_region_quiet_lit (by kernel_rfl) (by kernel_rfl) ?_
      repeat (any_goals (first | go_big_quiet_step (fail) | quiet_step (fail)))
      all_goals (refine wpQuiet_nil ?_; intro _ hw'; obtain ⟨nq, hw''⟩ := hw'; subst hw'')
      all_goals go_wp2
      go_roundw
      case rel => exact ⟨k + 1, by omega, by go_num, below_drewN hbel _⟩
      case measure => simp [intOf]; omega
    · have e : k = l.length := by omega
      subst e
      go_wp2
      go_ret
      exact ⟨rfl, hbel⟩

set_option maxHeartbeats 2000000 in
theorem FundWholes_walk (v : Value) (c : List Int) (n r : Int) (w : World) (hv : IntsAt w v c) :
    Calls Try.prog 13 #[v, .int .i64 n, .int .i64 r] w fun e w' => e = .returned (.bool true) ∧ Below w.heap.size w w' := by
  have HV := Lib.hid hv
  clear hv
  by_cases h1 : 40 < c.length
  · have L : Hid (decide (40 < c.length) = true) := Lib.hid (decide_eq_true h1)
    clear h1
    go_enter Try.func13, Try.ntmps13
    go_wp2_with fail
    refine (long_any _ _ _ HV.out).mono ?_
    rintro e w' ⟨rfl, rfl⟩
    rw [L.out]
    go_wp2_with fail
    refine (sane_any _).mono ?_
    rintro e w1 ⟨rfl, hb1⟩
    go_wp2
    go_ret
    exact ⟨rfl, hb1⟩
  · have L : Hid (decide (40 < c.length) = false) := Lib.hid (decide_eq_false h1)
    clear h1
    go_enter Try.func13, Try.ntmps13
    go_wp2_with fail
    refine (long_any _ _ _ HV.out).mono ?_
    rintro e w' ⟨rfl, rfl⟩
    rw [L.out]
    go_wp2_with fail
    refine (tLeast_any _ _ _ _ _ HV.out).mono ?_
    rintro e w1 ⟨rfl, hb1⟩
    go_wp2_with fail
    refine (rLeast_any _ _ _ _ _ (HV.out.below hb1)).mono ?_
    rintro e w2 ⟨rfl, hb2⟩
    have HB2 := Lib.hid (below_trans hb1 hb2)
    clear hb1 hb2
    go_wp2_with fail
    refine (tWhole_any _ _ _ _ _ (HV.out.below HB2.out)).mono ?_
    rintro e w3 ⟨ov, res, rfl, hr3, hb3, hbad, hgood⟩
    have HR3 := Lib.hid hr3
    have HB3 := Lib.hid (below_trans HB2.out hb3)
    have HL : Hid (∃ LL : List Nat, (shareE c n r = 0 → Orde (gL c n r) LL) ∧ (shareE c n r = 0 → res = incL (qsL (shareL c n r)) (LL.take (whN n (shareL c n r)))) ∧ (shareE c n r ≠ 0 → res = [])) := Lib.hid (by
      by_cases h0 : shareE c n r = 0
      · obtain ⟨LL, h2, h3⟩ := hgood h0
        exact ⟨LL, fun _ => h2, fun _ => h3, fun h => absurd h0 h⟩
      · exact ⟨[], fun h => absurd h h0, fun h => absurd h h0, hbad⟩)
    clear hr3 hb3 hbad hgood
    obtain ⟨LL, k1, k2, k3⟩ := HL.out
    have RW := Lib.hid (rWhole_any v c n r w3 (HV.out.below HB3.out) LL k1)
    have K2 := Lib.hid k2
    have K3 := Lib.hid k3
    clear HL k1 k2 k3
    go_wp2_with fail
    refine RW.out.mono ?_
    rintro e w4 ⟨ov2, res2, rfl, hr4, hb4, hbad, hgood⟩
    have hre : res2 = res := by
      by_cases h0 : shareE c n r = 0
      · rw [hgood h0, K2.out h0]
      · rw [hbad h0, K3.out h0]
    subst hre
    have HR4 := Lib.hid hr4
    have HR3' := Lib.hid (HR3.out.below hb4)
    have HB4 := Lib.hid (below_trans HB3.out hb4)
    clear hr4 hb4 hbad hgood K2 K3 RW
    go_wp2_with fail
    refine (sameInts_any _ _ _ _ HR3'.out HR4.out).mono ?_
    rintro e w5 ⟨rfl, hb5⟩
    have HB5 := Lib.hid (below_trans HB4.out hb5)
    clear hb5
    go_wp2_with fail
    refine (sane_any _).mono ?_
    rintro e w6 ⟨rfl, hb6⟩
    have HB6 := Lib.hid (below_trans HB5.out hb6)
    clear hb6
    go_wp2
    go_ret
    exact ⟨rfl, HB6.out⟩

end Go.Proofs.Ytaakefjblldccaa
