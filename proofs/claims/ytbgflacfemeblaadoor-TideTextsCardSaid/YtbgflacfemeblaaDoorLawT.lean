/- The walk of the law TideTexts. -/
import Derived.Test.YtbgflacfemeblaaDoorRp
import Derived.Test.YtbgflacfemeblaaDoorLaw
namespace Go.Proofs.YtbgflacfemeblaaDoor
open Go.RowKit Go.Shelf

set_option maxRecDepth 100000 in
set_option maxHeartbeats 8000000 in
theorem TideTexts_walk (v : Value) (t : List (List Int)) (s : ByteArray) (w : World) (hv : RowsAt w v t) (hs : s.size ≤ 9223372036854775807) (hV : Vars w) :
    Calls Tryd.prog 3 #[v, .string s] w fun e w' => e = .returned (.bool true) ∧ Below w.heap.size w w' := by
  have WD := Lib.hid (wide_any v t w hv)
  have HV := Lib.hid hv
  obtain ⟨va, vc, rfl, _⟩ := hv
  cases hw : wide t with
  | true =>
    rw [hw] at WD
    clear hw hV
    go_enter Tryd.func3, Tryd.ntmps3
    go_wp2_with fail
    refine WD.out.mono ?_
    rintro e w' ⟨rfl, rfl⟩
    go_wp2_with fail
    refine (awake_any _).mono ?_
    rintro e wA ⟨rfl, hbA⟩
    go_wp2
    go_ret
    exact ⟨rfl, hbA⟩
  | false =>
    rw [hw] at WD
    clear hw
    by_cases h1000 : 1000 < s.size
    · have h1 : (1000 : Int) < (s.size : Int) := by omega
      clear hV h1000
      go_enter Tryd.func3, Tryd.ntmps3
      go_wp2_with fail
      refine WD.out.mono ?_
      rintro e w' ⟨rfl, rfl⟩
      go_wp2_with fail
      refine (awake_any _).mono ?_
      rintro e wA ⟨rfl, hbA⟩
      go_wp2
      go_ret
      exact ⟨rfl, hbA⟩
    · have h1 : ¬ (1000 : Int) < (s.size : Int) := by omega
      have HVS := Lib.hid hV
      have F1 := Lib.hid (tFormat_any (.slice va t.length vc) t w HV.out hV)
      have F2 := Lib.hid (fun W (hb : Below w.heap.size w W) => rFormat_any (.slice va t.length vc) t W (HV.out.below hb))
      have P1 := Lib.hid (fun W (hb : Below w.heap.size w W) => tParse_any s W (hV.below hb))
      have P2 := Lib.hid (fun W (hb : Below w.heap.size w W) => rParse_any s W (by omega))
      have P3 := Lib.hid (fun W (hb : Below w.heap.size w W) => tParse_any (fmB t) W (hV.below hb))
      unfold GivesT at P1 P2 P3
      rw [← par_same] at P2
      clear hV
      cases hp : parP s with
      | none =>
        rw [hp] at P1 P2
        simp only [parE, parT] at P1 P2
        clear hp
        cases hvl : vld t with
        | true =>
          have E1 := Lib.hid (show fmE t = 0 by unfold fmE; rw [hvl]; rfl)
          have E2 := Lib.hid (show parP (fmB t) = some t by unfold fmB; rw [hvl]; exact par_tex hvl)
          rw [E1.out] at F1 F2
          rw [E2.out] at P3
          simp only [parE, parT] at P3
          clear hvl E1 E2
          generalize fmB t = fb at *
          have hfe : (fb.toList == fb.toList) = true := by simp
          go_enter Tryd.func3, Tryd.ntmps3
          go_wp2_with fail
          refine WD.out.mono ?_
          rintro e w' ⟨rfl, rfl⟩
          go_wp2_with fail
          refine F1.out.mono ?_
          rintro e w1 ⟨rfl, hb1⟩
          have HB1 := Lib.hid hb1
          clear hb1
          go_wp2_with fail
          refine (F2.out w1 HB1.out).mono ?_
          rintro e w2 ⟨rfl, hb2⟩
          have HB2 := Lib.hid (HB1.out.trans (hb2.mono HB1.out.size))
          clear hb2
          go_wp2_with fail
          refine (P1.out w2 HB2.out).mono ?_
          rintro e w3 ⟨a3, rfl, ha3, hb3⟩
          have HA3 := Lib.hid ha3
          have HB3 := Lib.hid (HB2.out.trans (hb3.mono HB2.out.size))
          obtain ⟨a3a, a3c, rfl, _⟩ := ha3
          clear hb3
          go_wp2_with fail
          refine (P2.out w3 HB3.out).mono ?_
          rintro e w4 ⟨a4, rfl, ha4, hb4⟩
          have HA4 := Lib.hid ha4
          have HA34 := Lib.hid (HA3.out.below hb4)
          have HB4 := Lib.hid (HB3.out.trans (hb4.mono HB3.out.size))
          obtain ⟨a4a, a4c, rfl, _⟩ := ha4
          clear hb4
          have EQ := Lib.hid (equal_any _ _ _ _ w4 HA34.out HA4.out)
          rw [decide_eq_true rfl] at EQ
          go_wp2_with fail
          refine EQ.out.mono ?_
          rintro e w5 ⟨rfl, hb5⟩
          have HB5 := Lib.hid (HB4.out.trans (hb5.mono HB4.out.size))
          have HA5 := Lib.hid (HA34.out.below hb5)
          clear hb5 HA3 HA34 HA4 EQ
          go_wp2_with fail
          refine (P3.out w5 HB5.out).mono ?_
          rintro e w6 ⟨b6, rfl, hb6a, hb6⟩
          have EB := Lib.hid (equal_any _ _ _ _ w6 hb6a (HV.out.below (HB5.out.trans (hb6.mono HB5.out.size))))
          rw [decide_eq_true rfl] at EB
          have HB6 := Lib.hid (HB5.out.trans (hb6.mono HB5.out.size))
          have HA6 := Lib.hid (HA5.out.below hb6)
          obtain ⟨b6a, b6c, rfl, _⟩ := hb6a
          clear hb6 HA5
          go_wp2_with fail
          refine EB.out.mono ?_
          rintro e w7 ⟨rfl, hb7⟩
          have HB7 := Lib.hid (HB6.out.trans (hb7.mono HB6.out.size))
          have HA7 := Lib.hid (HA6.out.below hb7)
          clear hb7 EB HA6
          have HB8 := HB7
          obtain ⟨w8, rfl⟩ : ∃ w8, w8 = w7 := ⟨_, rfl⟩
          go_wp2_with fail
          refine (awake_any _).mono ?_
          rintro e wA ⟨rfl, hbA⟩
          go_wp2
          go_ret
          exact ⟨rfl, HB8.out.trans (hbA.mono HB8.out.size)⟩
        | false =>
          have E1 := Lib.hid (show fmE t = 10 by unfold fmE; rw [hvl]; rfl)
          rw [E1.out] at F1 F2
          clear hvl E1 P3
          generalize fmB t = fb at *
          have hfe : (fb.toList == fb.toList) = true := by simp
          go_enter Tryd.func3, Tryd.ntmps3
          go_wp2_with fail
          refine WD.out.mono ?_
          rintro e w' ⟨rfl, rfl⟩
          go_wp2_with fail
          refine F1.out.mono ?_
          rintro e w1 ⟨rfl, hb1⟩
          have HB1 := Lib.hid hb1
          clear hb1
          go_wp2_with fail
          refine (F2.out w1 HB1.out).mono ?_
          rintro e w2 ⟨rfl, hb2⟩
          have HB2 := Lib.hid (HB1.out.trans (hb2.mono HB1.out.size))
          clear hb2
          go_wp2_with fail
          refine (P1.out w2 HB2.out).mono ?_
          rintro e w3 ⟨a3, rfl, ha3, hb3⟩
          have HA3 := Lib.hid ha3
          have HB3 := Lib.hid (HB2.out.trans (hb3.mono HB2.out.size))
          obtain ⟨a3a, a3c, rfl, _⟩ := ha3
          clear hb3
          go_wp2_with fail
          refine (P2.out w3 HB3.out).mono ?_
          rintro e w4 ⟨a4, rfl, ha4, hb4⟩
          have HA4 := Lib.hid ha4
          have HA34 := Lib.hid (HA3.out.below hb4)
          have HB4 := Lib.hid (HB3.out.trans (hb4.mono HB3.out.size))
          obtain ⟨a4a, a4c, rfl, _⟩ := ha4
          clear hb4
          have EQ := Lib.hid (equal_any _ _ _ _ w4 HA34.out HA4.out)
          rw [decide_eq_true rfl] at EQ
          go_wp2_with fail
          refine EQ.out.mono ?_
          rintro e w5 ⟨rfl, hb5⟩
          have HB5 := Lib.hid (HB4.out.trans (hb5.mono HB4.out.size))
          have HA5 := Lib.hid (HA34.out.below hb5)
          clear hb5 HA3 HA34 HA4 EQ
          have HB7 := HB5
          have HA7 := HA5
          obtain ⟨w7, rfl⟩ : ∃ w7, w7 = w5 := ⟨_, rfl⟩
          have HB8 := HB7
          obtain ⟨w8, rfl⟩ : ∃ w8, w8 = w7 := ⟨_, rfl⟩
          go_wp2_with fail
          refine (awake_any _).mono ?_
          rintro e wA ⟨rfl, hbA⟩
          go_wp2
          go_ret
          exact ⟨rfl, HB8.out.trans (hbA.mono HB8.out.size)⟩
      | some tt =>
        have hpt := (parP_iff s tt).1 hp
        have ET := Lib.hid (show fmE tt = 0 by unfold fmE; rw [hpt.1]; rfl)
        have EB2 := Lib.hid (show fmB tt = s by unfold fmB; rw [hpt.1, hpt.2]; apply ba_ext2; simp [bsB])
        rw [hp] at P1 P2
        simp only [parE, parT] at P1 P2
        clear hp hpt
        cases hvl : vld t with
        | true =>
          have E1 := Lib.hid (show fmE t = 0 by unfold fmE; rw [hvl]; rfl)
          have E2 := Lib.hid (show parP (fmB t) = some t by unfold fmB; rw [hvl]; exact par_tex hvl)
          rw [E1.out] at F1 F2
          rw [E2.out] at P3
          simp only [parE, parT] at P3
          clear hvl E1 E2
          generalize fmB t = fb at *
          have hfe : (fb.toList == fb.toList) = true := by simp
          go_enter Tryd.func3, Tryd.ntmps3
          go_wp2_with fail
          refine WD.out.mono ?_
          rintro e w' ⟨rfl, rfl⟩
          go_wp2_with fail
          refine F1.out.mono ?_
          rintro e w1 ⟨rfl, hb1⟩
          have HB1 := Lib.hid hb1
          clear hb1
          go_wp2_with fail
          refine (F2.out w1 HB1.out).mono ?_
          rintro e w2 ⟨rfl, hb2⟩
          have HB2 := Lib.hid (HB1.out.trans (hb2.mono HB1.out.size))
          clear hb2
          go_wp2_with fail
          refine (P1.out w2 HB2.out).mono ?_
          rintro e w3 ⟨a3, rfl, ha3, hb3⟩
          have HA3 := Lib.hid ha3
          have HB3 := Lib.hid (HB2.out.trans (hb3.mono HB2.out.size))
          obtain ⟨a3a, a3c, rfl, _⟩ := ha3
          clear hb3
          go_wp2_with fail
          refine (P2.out w3 HB3.out).mono ?_
          rintro e w4 ⟨a4, rfl, ha4, hb4⟩
          have HA4 := Lib.hid ha4
          have HA34 := Lib.hid (HA3.out.below hb4)
          have HB4 := Lib.hid (HB3.out.trans (hb4.mono HB3.out.size))
          obtain ⟨a4a, a4c, rfl, _⟩ := ha4
          clear hb4
          have EQ := Lib.hid (equal_any _ _ _ _ w4 HA34.out HA4.out)
          rw [decide_eq_true rfl] at EQ
          go_wp2_with fail
          refine EQ.out.mono ?_
          rintro e w5 ⟨rfl, hb5⟩
          have HB5 := Lib.hid (HB4.out.trans (hb5.mono HB4.out.size))
          have HA5 := Lib.hid (HA34.out.below hb5)
          clear hb5 HA3 HA34 HA4 EQ
          go_wp2_with fail
          refine (P3.out w5 HB5.out).mono ?_
          rintro e w6 ⟨b6, rfl, hb6a, hb6⟩
          have EB := Lib.hid (equal_any _ _ _ _ w6 hb6a (HV.out.below (HB5.out.trans (hb6.mono HB5.out.size))))
          rw [decide_eq_true rfl] at EB
          have HB6 := Lib.hid (HB5.out.trans (hb6.mono HB5.out.size))
          have HA6 := Lib.hid (HA5.out.below hb6)
          obtain ⟨b6a, b6c, rfl, _⟩ := hb6a
          clear hb6 HA5
          go_wp2_with fail
          refine EB.out.mono ?_
          rintro e w7 ⟨rfl, hb7⟩
          have HB7 := Lib.hid (HB6.out.trans (hb7.mono HB6.out.size))
          have HA7 := Lib.hid (HA6.out.below hb7)
          clear hb7 EB HA6
          have FA := Lib.hid (tFormat_any _ tt w7 HA7.out (HVS.out.below HB7.out))
          rw [ET.out, EB2.out] at FA
          have hsr : (s.toList == s.toList) = true := by simp
          go_wp2_with fail
          refine FA.out.mono ?_
          rintro e w8 ⟨rfl, hb8⟩
          have HB8 := Lib.hid (HB7.out.trans (hb8.mono HB7.out.size))
          clear hb8 FA
          go_wp2_with fail
          refine (awake_any _).mono ?_
          rintro e wA ⟨rfl, hbA⟩
          go_wp2
          go_ret
          exact ⟨rfl, HB8.out.trans (hbA.mono HB8.out.size)⟩
        | false =>
          have E1 := Lib.hid (show fmE t = 10 by unfold fmE; rw [hvl]; rfl)
          rw [E1.out] at F1 F2
          clear hvl E1 P3
          generalize fmB t = fb at *
          have hfe : (fb.toList == fb.toList) = true := by simp
          go_enter Tryd.func3, Tryd.ntmps3
          go_wp2_with fail
          refine WD.out.mono ?_
          rintro e w' ⟨rfl, rfl⟩
          go_wp2_with fail
          refine F1.out.mono ?_
          rintro e w1 ⟨rfl, hb1⟩
          have HB1 := Lib.hid hb1
          clear hb1
          go_wp2_with fail
          refine (F2.out w1 HB1.out).mono ?_
          rintro e w2 ⟨rfl, hb2⟩
          have HB2 := Lib.hid (HB1.out.trans (hb2.mono HB1.out.size))
          clear hb2
          go_wp2_with fail
          refine (P1.out w2 HB2.out).mono ?_
          rintro e w3 ⟨a3, rfl, ha3, hb3⟩
          have HA3 := Lib.hid ha3
          have HB3 := Lib.hid (HB2.out.trans (hb3.mono HB2.out.size))
          obtain ⟨a3a, a3c, rfl, _⟩ := ha3
          clear hb3
          go_wp2_with fail
          refine (P2.out w3 HB3.out).mono ?_
          rintro e w4 ⟨a4, rfl, ha4, hb4⟩
          have HA4 := Lib.hid ha4
          have HA34 := Lib.hid (HA3.out.below hb4)
          have HB4 := Lib.hid (HB3.out.trans (hb4.mono HB3.out.size))
          obtain ⟨a4a, a4c, rfl, _⟩ := ha4
          clear hb4
          have EQ := Lib.hid (equal_any _ _ _ _ w4 HA34.out HA4.out)
          rw [decide_eq_true rfl] at EQ
          go_wp2_with fail
          refine EQ.out.mono ?_
          rintro e w5 ⟨rfl, hb5⟩
          have HB5 := Lib.hid (HB4.out.trans (hb5.mono HB4.out.size))
          have HA5 := Lib.hid (HA34.out.below hb5)
          clear hb5 HA3 HA34 HA4 EQ
          have HB7 := HB5
          have HA7 := HA5
          obtain ⟨w7, rfl⟩ : ∃ w7, w7 = w5 := ⟨_, rfl⟩
          have FA := Lib.hid (tFormat_any _ tt w7 HA7.out (HVS.out.below HB7.out))
          rw [ET.out, EB2.out] at FA
          have hsr : (s.toList == s.toList) = true := by simp
          go_wp2_with fail
          refine FA.out.mono ?_
          rintro e w8 ⟨rfl, hb8⟩
          have HB8 := Lib.hid (HB7.out.trans (hb8.mono HB7.out.size))
          clear hb8 FA
          go_wp2_with fail
          refine (awake_any _).mono ?_
          rintro e wA ⟨rfl, hbA⟩
          go_wp2
          go_ret
          exact ⟨rfl, HB8.out.trans (hbA.mono HB8.out.size)⟩
end Go.Proofs.YtbgflacfemeblaaDoor
