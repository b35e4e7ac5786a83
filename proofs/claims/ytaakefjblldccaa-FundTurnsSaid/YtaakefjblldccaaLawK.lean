/- The walk of the law FundTurns. -/
import Derived.Test.YtaakefjblldccaaMm
import Derived.Test.YtaakefjblldccaaTr
import Derived.Test.YtaakefjblldccaaLawB
import Derived.Test.YtaakefjblldccaaLawF
namespace Go.Proofs.Ytaakefjblldccaa
open Go.RowKit

/-- Both turns come to the same. -/
theorem turn_same {c ord : List Int} {n : Int} {er er' : Int} {res res' : List Int}
    (h1 : (askE c n ≠ 0 → er = askE c n ∧ res = []) ∧ (askE c n = 0 → (¬ okO c.length ord → er = 2 ∧ res = []) ∧ ∀ L, okL c.length ord L → er = 0 ∧ res = (turnS c L (zst c n)).1))
    (h2 : (askE c n ≠ 0 → er' = askE c n ∧ res' = []) ∧ (askE c n = 0 → (¬ okO c.length ord → er' = 2 ∧ res' = []) ∧ ∀ L, okL c.length ord L → er' = 0 ∧ res' = (turnS c L (zst c n)).1)) : er = er' ∧ res = res' := by
  by_cases ha : askE c n = 0
  · by_cases ho : okO c.length ord
    · obtain ⟨L, hL⟩ := ho
      have a := (h1.2 ha).2 L hL
      have b := (h2.2 ha).2 L hL
      exact ⟨a.1.trans b.1.symm, a.2.trans b.2.symm⟩
    · have a := (h1.2 ha).1 ho
      have b := (h2.2 ha).1 ho
      exact ⟨a.1.trans b.1.symm, a.2.trans b.2.symm⟩
  · have a := h1.1 ha
    have b := h2.1 ha
    exact ⟨a.1.trans b.1.symm, a.2.trans b.2.symm⟩

set_option maxRecDepth 100000 in
set_option maxHeartbeats 2000000 in
theorem FundTurns_walk (v x : Value) (c ord : List Int) (n : Int) (w : World) (hv : IntsAt w v c) (hx : IntsAt w x ord) :
    Calls Try.prog 6 #[v, x, .int .i64 n] w fun e w' => e = .returned (.bool true) ∧ Below w.heap.size w w' := by
  have HV := Lib.hid hv
  have HX := Lib.hid hx
  have LG := Lib.hid (long_any v c w hv)
  have SN := Lib.hid sane_any
  have C1 := Lib.hid (fun W (hb : Below w.heap.size w W) (h : ord.length ≤ 40) => tTurn_any v x c ord n W (HV.out.below hb) (HX.out.below hb) h)
  have C2 := Lib.hid (fun W (hb : Below w.heap.size w W) (h : ord.length ≤ 40) => rTurn_any v x c ord n W (HV.out.below hb) (HX.out.below hb) h)
  have C3 := Lib.hid (fun W (hb : Below w.heap.size w W) => tMiddle_any v c n W (HV.out.below hb))
  have C4 := Lib.hid (fun W (hb : Below w.heap.size w W) => rMiddle_any v c n W (HV.out.below hb))
  unfold GivesU at C1 C2
  unfold GivesM at C3 C4
  obtain ⟨va, vc, rfl, hl, _⟩ := hv
  obtain ⟨xa, xc, rfl, hl2, _⟩ := hx
  generalize midE c n = me at *
  generalize midV c n = ml at *
  by_cases h40 : 40 < c.length
  · have L : Hid (decide (40 < c.length) = true) := Lib.hid (decide_eq_true h40)
    clear h40
    go_enter Try.func6, Try.ntmps6
    go_wp2_with fail
    refine LG.out.mono ?_
    rintro e w' ⟨rfl, rfl⟩
    rw [L.out]
    go_wp2_with (go_at_call 19; refine (SN.out _).mono ?_; rintro e w' ⟨rfl, hbS⟩)
    go_ret
    exact ⟨rfl, hbS⟩
  · have L : Hid (decide (40 < c.length) = false) := Lib.hid (decide_eq_false h40)
    clear h40
    by_cases h41 : 40 < ord.length
    · have h41' : (40 : Int) < ord.length := by omega
      clear h41
      go_enter Try.func6, Try.ntmps6
      go_wp2_with fail
      refine LG.out.mono ?_
      rintro e w' ⟨rfl, rfl⟩
      rw [L.out]
      go_wp2_with (go_at_call 19; refine (SN.out _).mono ?_; rintro e w' ⟨rfl, hbS⟩)
      go_ret
      exact ⟨rfl, hbS⟩
    · have h41' : ¬ (40 : Int) < ord.length := by omega
      have h42 : ord.length ≤ 40 := by omega
      clear h41
      go_enter Try.func6, Try.ntmps6
      go_wp2_with fail
      refine LG.out.mono ?_
      rintro e w' ⟨rfl, rfl⟩
      rw [L.out]
      go_wp2_with fail
      refine (C1.out w (Below.refl _ _) h42).mono ?_
      rintro e w1 ⟨v1, l1, e1, rfl, hi1, hb1, hq1, hq2⟩
      have I1 := Lib.hid hi1
      have Q1 := Lib.hid (And.intro hq1 hq2)
      have B1 := Lib.hid hb1
      obtain ⟨a1, c1, rfl, _, _⟩ := hi1
      clear hb1 hq1 hq2
      go_wp2_with fail
      refine (C2.out w1 B1.out h42).mono ?_
      rintro e w2 ⟨v2, l2, e2, rfl, hi2, hb2, hr1, hr2⟩
      obtain ⟨he, hl⟩ := turn_same Q1.out ⟨hr1, hr2⟩
      subst he
      subst hl
      have I2 := Lib.hid hi2
      have J1 := Lib.hid (I1.out.below hb2)
      have B2 := Lib.hid (B1.out.trans (hb2.mono B1.out.size))
      obtain ⟨a2, c2, rfl, _, _⟩ := hi2
      clear hb2 hr1 hr2 I1 Q1
      go_wp2_with fail
      refine (C3.out w2 B2.out).mono ?_
      rintro e w3 ⟨v3, rfl, hi3, hb3⟩
      have I3 := Lib.hid hi3
      have K1 := Lib.hid (J1.out.below hb3)
      have K2 := Lib.hid (I2.out.below hb3)
      have B3 := Lib.hid (B2.out.trans (hb3.mono B2.out.size))
      obtain ⟨a3, c3, rfl, _, _⟩ := hi3
      clear hb3 J1 I2
      go_wp2_with fail
      refine (C4.out w3 B3.out).mono ?_
      rintro e w4 ⟨v4, rfl, hi4, hb4⟩
      have B4 := Lib.hid (B3.out.trans (hb4.mono B3.out.size))
      have S1 := Lib.hid (sameInts_any _ _ l1 w4 (K1.out.below hb4) (K2.out.below hb4))
      have S2 := Lib.hid (fun W (hb : Below w4.heap.size w4 W) => sameRats_any _ _ ml W ((I3.out.below hb4).below hb) (hi4.below hb))
      obtain ⟨a4, c4, rfl, _, _⟩ := hi4
      clear hb4 K1 K2 I3 C1 C2 C3 C4
      go_wp2_with fail
      refine S1.out.mono ?_
      rintro e w5 ⟨rfl, hb5⟩
      have B5 := Lib.hid hb5
      clear hb5
      go_wp2_with fail
      refine (S2.out w5 B5.out).mono ?_
      rintro e w6 ⟨rfl, hb6⟩
      have B6 := Lib.hid (B4.out.trans ((B5.out.trans (hb6.mono B5.out.size)).mono B4.out.size))
      clear hb6
      go_wp2_with (go_at_call 19; refine (SN.out _).mono ?_; rintro e w' ⟨rfl, hbS⟩)
      go_ret
      exact ⟨rfl, B6.out.trans (hbS.mono B6.out.size)⟩

end Go.Proofs.Ytaakefjblldccaa
