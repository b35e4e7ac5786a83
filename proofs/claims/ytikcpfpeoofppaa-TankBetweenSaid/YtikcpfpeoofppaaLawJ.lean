/- The law TankBetween: the walk. -/
import Derived.Test.YtikcpfpeoofppaaBt
namespace Go.Proofs.Ytikcpfpeoofppaa
open Go.RowKit

set_option maxHeartbeats 2000000 in
theorem TankBetween_walk (v y z : Value) (t l m : List Int) (w : World) (hv : IntsAt w v t) (hy : IntsAt w y l) (hz : IntsAt w z m) :
    Calls Try.prog 7 #[v, y, z] w fun e w' => e = .returned (.bool true) ∧ Below w.heap.size w w' := by
  have L1 := Lib.hid (long_any v y t l w hv hy)
  have L2 := Lib.hid (long_any (.slice none 0 0) z [] m w (ints_nil w) hz)
  have V := Lib.hid hv
  have Y := Lib.hid hy
  have Z := Lib.hid hz
  have S := Lib.hid sane_any
  have C1 := Lib.hid (tBetween_any v y z t l m w hv hy hz)
  have C2 := Lib.hid (fun w1 hb => rBetween_any v y z t l m w1 (V.out.below hb) (Y.out.below hb) (Z.out.below hb))
  obtain ⟨a0, c0, rfl, hl0, _⟩ := hv
  obtain ⟨a1, c1, rfl, hl1, _⟩ := hy
  obtain ⟨a2, c2, rfl, hl2, _⟩ := hz
  generalize btE t l m = de at *
  generalize btL t l m = dl at *
  cases hlong : (decide (20 < t.length) || decide (20 < l.length)) with
  | true =>
    rw [hlong] at L1
    clear hlong
    go_enter Try.func7, Try.ntmps7
    go_wp2_with (first | (go_at_call 21; (with_reducible refine (L1.out).mono ?_); rintro e w' ⟨rfl, rfl⟩) | (go_at_call 21; (with_reducible refine (L2.out).mono ?_); rintro e w' ⟨rfl, rfl⟩) | (go_at_call 20; refine (S.out _).mono ?_; rintro e w' ⟨rfl, hbS⟩))
    go_ret
    exact ⟨rfl, hbS⟩
  | false =>
    rw [hlong] at L1
    clear hlong
    cases hlong2 : (decide (20 < ([] : List Int).length) || decide (20 < m.length)) with
    | true =>
      rw [hlong2] at L2
      clear hlong2
      go_enter Try.func7, Try.ntmps7
      go_wp2_with (first | (go_at_call 21; (with_reducible refine (L1.out).mono ?_); rintro e w' ⟨rfl, rfl⟩) | (go_at_call 21; (with_reducible refine (L2.out).mono ?_); rintro e w' ⟨rfl, rfl⟩) | (go_at_call 20; refine (S.out _).mono ?_; rintro e w' ⟨rfl, hbS⟩))
      go_ret
      exact ⟨rfl, hbS⟩
    | false =>
      rw [hlong2] at L2
      clear hlong2
      go_enter Try.func7, Try.ntmps7
      go_wp2_with (first | (go_at_call 21; (with_reducible refine (L1.out).mono ?_); rintro e w' ⟨rfl, rfl⟩) | (go_at_call 21; (with_reducible refine (L2.out).mono ?_); rintro e w' ⟨rfl, rfl⟩))
      refine C1.out.mono ?_
      rintro e w1 ⟨ov1, rfl, hov1, hb1⟩
      have O1 := Lib.hid hov1
      obtain ⟨oa1, oc1, rfl, _⟩ := hov1
      go_wp2_with fail
      refine (C2.out w1 hb1).mono ?_
      rintro e w2 ⟨ov2, rfl, hov2, hb2⟩
      have hc2 : Below w.heap.size w w2 := hb1.trans (hb2.mono hb1.size)
      have SD := Lib.hid (sameDeeds_any _ _ dl dl w2 (O1.out.below hb2) hov2)
      rw [decide_eq_true rfl] at SD
      obtain ⟨oa2, oc2, rfl, _⟩ := hov2
      have HC := Lib.hid hc2
      clear C1 C2 hb1 hb2 hc2 L1 L2 O1
      go_wp2_with (first | (go_at_call 19; refine SD.out.mono ?_; rintro e w5 ⟨rfl, hb5⟩) | (go_at_call 20; refine (S.out _).mono ?_; rintro e w' ⟨rfl, hbS⟩))
      go_ret
      have h5 := HC.out.trans (hb5.mono HC.out.size)
      exact ⟨rfl, h5.trans (hbS.mono h5.size)⟩

end Go.Proofs.Ytikcpfpeoofppaa
