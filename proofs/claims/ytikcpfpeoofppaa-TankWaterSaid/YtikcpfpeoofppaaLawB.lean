/- The law TankAfter. -/
import Derived.Test.YtikcpfpeoofppaaLawA
import Derived.Test.YtikcpfpeoofppaaX
import Derived.Test.YtikcpfpeoofppaaW
namespace Go.Proofs.Ytikcpfpeoofppaa
open Go.RowKit

set_option maxHeartbeats 1000000 in
theorem TankAfter_walk (v y x : Value) (t l : List Int) (ds : List Deed) (w : World) (hv : IntsAt w v t) (hy : IntsAt w y l) (hx : DeedsAt w x ds) :
    Calls Try.prog 9 #[v, y, x] w fun e w' => e = .returned (.bool true) ∧ Below w.heap.size w w' := by
  have L := Lib.hid (long_any v y t l w hv hy)
  have V := Lib.hid hv
  have Y := Lib.hid hy
  have X := Lib.hid hx
  have S := Lib.hid sane_any
  obtain ⟨a0, c0, rfl, _⟩ := hv
  obtain ⟨a1, c1, rfl, _⟩ := hy
  obtain ⟨a2, c2, rfl, _⟩ := hx
  cases hlong : (decide (20 < t.length) || decide (20 < l.length)) with
  | true =>
    rw [hlong] at L
    clear hlong
    go_enter Try.func9, Try.ntmps9
    go_wp2_with (first | (go_at_call 21; refine L.out.mono ?_; rintro e w' ⟨rfl, rfl⟩) | (go_at_call 20; refine (S.out _).mono ?_; rintro e w' ⟨rfl, hb⟩))
    go_ret
    exact ⟨rfl, hb⟩
  | false =>
    rw [hlong] at L
    clear hlong
    by_cases h300 : (300 : Int) < (ds.length : Int)
    · go_enter Try.func9, Try.ntmps9
      go_wp2_with (first | (go_at_call 21; refine L.out.mono ?_; rintro e w' ⟨rfl, rfl⟩) | (go_at_call 20; refine (S.out _).mono ?_; rintro e w' ⟨rfl, hb⟩))
      go_ret
      exact ⟨rfl, hb⟩
    · have T1 := Lib.hid (tAfter_any _ _ _ t l ds w V.out Y.out X.out)
      have T2 := Lib.hid (fun w1 hb => rAfter_any _ _ _ t l ds w1 (V.out.below hb) (Y.out.below hb) (X.out.below hb))
      have T3 := Lib.hid (fun w1 hb => tWater_any _ _ _ t l ds w1 (V.out.below hb) (Y.out.below hb) (X.out.below hb))
      have T4 := Lib.hid (fun w1 hb => rWater_any _ _ _ t l ds w1 (V.out.below hb) (Y.out.below hb) (X.out.below hb))
      unfold GivesA at T1 T2
      generalize runE t l ds = re at *
      generalize wIn t l ds = wi at *
      generalize wOut t l ds = wo at *
      go_enter Try.func9, Try.ntmps9
      go_wp2_with (first | (go_at_call 21; refine L.out.mono ?_; rintro e w' ⟨rfl, rfl⟩))
      refine T1.out.mono ?_
      rintro e w1 ⟨ov, rfl, hov, hb1⟩
      have O1 := Lib.hid hov
      clear hov
      go_wp2_with fail
      refine (T2.out w1 hb1).mono ?_
      rintro e w2 ⟨ov2, rfl, hov2, hb2⟩
      have hc2 : Below w.heap.size w w2 := hb1.trans (hb2.mono hb1.size)
      have O2 := Lib.hid hov2
      clear hov2
      go_wp2_with fail
      refine (T3.out w2 hc2).mono ?_
      rintro e w3 ⟨rfl, hb3⟩
      have hc3 : Below w.heap.size w w3 := hc2.trans (hb3.mono hc2.size)
      go_wp2_with fail
      refine (T4.out w3 hc3).mono ?_
      rintro e w4 ⟨rfl, hb4⟩
      have hc4 : Below w.heap.size w w4 := hc3.trans (hb4.mono hc3.size)
      have SM := Lib.hid (sameInts_any ov ov2 _ w4 (((O1.out.below hb2).below hb3).below hb4) ((O2.out.below hb3).below hb4))
      clear T1 T2 T3 T4
      go_wp2_with (first | (go_at_call 40; refine SM.out.mono ?_; rintro e w5 ⟨rfl, hb5⟩) | (go_at_call 20; refine (S.out _).mono ?_; rintro e w6 ⟨rfl, hb6⟩))
      go_ret
      exact ⟨rfl, (hc4.trans (hb5.mono hc4.size)).trans (hb6.mono (hc4.trans (hb5.mono hc4.size)).size)⟩

end Go.Proofs.Ytikcpfpeoofppaa
