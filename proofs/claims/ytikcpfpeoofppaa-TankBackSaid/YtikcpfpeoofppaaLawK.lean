/- The law TankBack: the walk. -/
import Derived.Test.YtikcpfpeoofppaaWr
namespace Go.Proofs.Ytikcpfpeoofppaa
open Go.RowKit

set_option maxRecDepth 100000 in
set_option maxHeartbeats 2000000 in
theorem TankBack_walk (v y : Value) (t l : List Int) (w : World) (hv : IntsAt w v t) (hy : IntsAt w y l) :
    Calls Try.prog 6 #[v, y] w fun e w' => e = .returned (.bool true) ∧ Below w.heap.size w w' := by
  have L1 := Lib.hid (long_any v y t l w hv hy)
  have V := Lib.hid hv
  have Y := Lib.hid hy
  have S := Lib.hid sane_any
  have C1 := Lib.hid (tBack_any v y t l w hv hy)
  have C2 := Lib.hid (fun w1 hb => rBack_any v y t l w1 (V.out.below hb) (Y.out.below hb))
  have C3 := Lib.hid (fun w1 hb => tWays_any v y t l w1 (V.out.below hb) (Y.out.below hb))
  have C4 := Lib.hid (fun w1 hb => rWays_any v y t l w1 (V.out.below hb) (Y.out.below hb))
  obtain ⟨a0, c0, rfl, hl0, _⟩ := hv
  obtain ⟨a1, c1, rfl, hl1, _⟩ := hy
  generalize backV t l = bv at *
  generalize askE t [l] = ae at *
  generalize wyE t l = de at *
  generalize wyL t l = dl at *
  cases hlong : (decide (20 < t.length) || decide (20 < l.length)) with
  | true =>
    rw [hlong] at L1
    clear hlong
    go_enter Try.func6, Try.ntmps6
    go_wp2_with (first | (go_at_call 21; (with_reducible refine (L1.out).mono ?_); rintro e w' ⟨rfl, rfl⟩) | (go_at_call 20; refine (S.out _).mono ?_; rintro e w' ⟨rfl, hbS⟩))
    go_ret
    exact ⟨rfl, hbS⟩
  | false =>
    rw [hlong] at L1
    clear hlong
    go_enter Try.func6, Try.ntmps6
    go_wp2_with (first | (go_at_call 21; (with_reducible refine (L1.out).mono ?_); rintro e w' ⟨rfl, rfl⟩))
    refine C1.out.mono ?_
    rintro e w1 ⟨rfl, hb1⟩
    have HB1 := Lib.hid hb1
    clear hb1
    go_wp2_with fail
    refine (C2.out w1 HB1.out).mono ?_
    rintro e w2 ⟨rfl, hb2⟩
    have HB2 := Lib.hid (HB1.out.trans (hb2.mono HB1.out.size))
    clear hb2
    go_wp2_with fail
    refine (C3.out w2 HB2.out).mono ?_
    rintro e w3 ⟨ov3, rfl, hov3, hb3⟩
    have O3 := Lib.hid hov3
    have HB3 := Lib.hid (HB2.out.trans (hb3.mono HB2.out.size))
    obtain ⟨oa3, oc3, rfl, _⟩ := hov3
    clear hb3
    go_wp2_with fail
    refine (C4.out w3 HB3.out).mono ?_
    rintro e w4 ⟨ov4, rfl, hov4, hb4⟩
    have HB4 := Lib.hid (HB3.out.trans (hb4.mono HB3.out.size))
    have SD := Lib.hid (sameDeeds_any _ _ dl dl w4 (O3.out.below hb4) hov4)
    rw [decide_eq_true rfl] at SD
    obtain ⟨oa4, oc4, rfl, _⟩ := hov4
    clear C1 C2 C3 C4 hb4 L1 O3
    cases bv <;>
    · go_wp2_with (first | (go_at_call 19; refine SD.out.mono ?_; rintro e w5 ⟨rfl, hb5⟩) | (go_at_call 20; refine (S.out _).mono ?_; rintro e w' ⟨rfl, hbS⟩))
      go_ret
      have h5 := HB4.out.trans (hb5.mono HB4.out.size)
      exact ⟨rfl, h5.trans (hbS.mono h5.size)⟩

end Go.Proofs.Ytikcpfpeoofppaa
