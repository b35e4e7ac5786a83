/- The walk of the law FundOld. -/
import Derived.Test.YtaakefjblldccaaLawMT
import Derived.Test.YtaakefjblldccaaLawMF
import Derived.Test.YtaakefjblldccaaLawME
namespace Go.Proofs.Ytaakefjblldccaa
open Go.RowKit

set_option maxRecDepth 100000 in
set_option maxHeartbeats 8000000 in
theorem FundOld_walk (v x : Value) (c : List Int) (aw : List Rat2) (n : Int) (w : World) (hv : IntsAt w v c) (hx : RatsAt w x aw) :
    Calls Try.prog 12 #[v, .int .i64 n, x] w fun e w' => e = .returned (.bool true) ∧ Below w.heap.size w w' := by
  have HV := Lib.hid hv
  have HX := Lib.hid hx
  have LG := Lib.hid (long_any v c w hv)
  have SN := Lib.hid sane_any
  by_cases h40 : 40 < c.length
  · have L : Hid (decide (40 < c.length) = true) := Lib.hid (decide_eq_true h40)
    obtain ⟨va, vc, rfl, hl, _⟩ := hv
    obtain ⟨xa, xc, rfl, hl2, _⟩ := hx
    clear h40
    go_enter Try.func12, Try.ntmps12
    go_wp2_with fail
    refine LG.out.mono ?_
    rintro e w' ⟨rfl, rfl⟩
    rw [L.out]
    go_wp2_with (go_at_call 19; refine (SN.out _).mono ?_; rintro e w' ⟨rfl, hbS⟩)
    go_ret
    exact ⟨rfl, hbS⟩
  · have L : Hid (decide (40 < c.length) = false) := Lib.hid (decide_eq_false h40)
    by_cases h41 : 40 < aw.length
    · have h41' : (40 : Int) < aw.length := by omega
      obtain ⟨va, vc, rfl, hl, _⟩ := hv
      obtain ⟨xa, xc, rfl, hl2, _⟩ := hx
      clear h40 h41
      go_enter Try.func12, Try.ntmps12
      go_wp2_with fail
      refine LG.out.mono ?_
      rintro e w' ⟨rfl, rfl⟩
      rw [L.out]
      go_wp2_with (go_at_call 19; refine (SN.out _).mono ?_; rintro e w' ⟨rfl, hbS⟩)
      go_ret
      exact ⟨rfl, hbS⟩
    · have h41' : ¬ (40 : Int) < aw.length := by omega
      by_cases h0 : shareE c n 4 = 0
      · obtain ⟨ha, _, _⟩ := shareE_zero h0
        rcases agV_ae2 (c := c) (n := n) (l := aw) ha with ⟨hag, hae⟩ | ⟨hag, hae | hae⟩
        · exact FundOld_T v x c aw n w hv hx h40 h41 h0 hag hae
        · exact FundOld_F v x c aw n w hv hx h40 h41 h0 hag hae
        · exact FundOld_E v x c aw n w hv hx h40 h41 h0 hag hae
      · have SB := Lib.hid (shareV_bad h0)
        have SH := Lib.hid (Share_any v c n 4 w hv)
        unfold GivesS at SH
        rw [SB.out] at SH
        have hb0 : (shareE c n 4 != 0) = true := bne_iff_ne.2 h0
        generalize shareE c n 4 = se at *
        obtain ⟨va, vc, rfl, hl, _⟩ := hv
        obtain ⟨xa, xc, rfl, hl2, _⟩ := hx
        clear h40 h41 h0
        go_enter Try.func12, Try.ntmps12
        go_wp2_with fail
        refine LG.out.mono ?_
        rintro e w' ⟨rfl, rfl⟩
        rw [L.out]
        go_wp2_with fail
        refine SH.out.mono ?_
        rintro e w1 ⟨v1, rfl, ho, hb1⟩
        obtain ⟨a1, c1, rfl, _, _⟩ := ho.at (by simp)
        have HB1 := Lib.hid hb1
        clear ho hb1
        go_wp2_with (go_at_call 19; refine (SN.out _).mono ?_; rintro e w' ⟨rfl, hbS⟩)
        go_ret
        exact ⟨rfl, HB1.out.trans (hbS.mono HB1.out.size)⟩

end Go.Proofs.Ytaakefjblldccaa
