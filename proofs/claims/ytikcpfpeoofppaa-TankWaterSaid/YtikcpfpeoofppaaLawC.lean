/- The law TankWater. -/
import Derived.Test.YtikcpfpeoofppaaLawB
namespace Go.Proofs.Ytikcpfpeoofppaa
open Go.RowKit

set_option maxHeartbeats 1000000 in
theorem TankWater_walk (v y x : Value) (t l : List Int) (ds : List Deed) (w : World) (hv : IntsAt w v t) (hy : IntsAt w y l) (hx : DeedsAt w x ds) :
    Calls Try.prog 10 #[v, y, x] w fun e w' => e = .returned (.bool true) ∧ Below w.heap.size w w' := by
  have L := Lib.hid (long_any v y t l w hv hy)
  have V := Lib.hid hv
  have Y := Lib.hid hy
  have X := Lib.hid hx
  have S := Lib.hid sane_any
  obtain ⟨a0, c0, rfl, _⟩ := hv
  obtain ⟨a1, c1, rfl, _⟩ := hy
  obtain ⟨a2, c2, rfl, _⟩ := hx
  cases hlong : (decide (20 < t.length) || decide (20 < l.length)) with
  | true =>
    rw [hlong] at L
    clear hlong
    go_enter Try.func10, Try.ntmps10
    go_wp2_with (first | (go_at_call 21; refine L.out.mono ?_; rintro e w' ⟨rfl, rfl⟩) | (go_at_call 20; refine (S.out _).mono ?_; rintro e w' ⟨rfl, hb⟩))
    go_ret
    exact ⟨rfl, hb⟩
  | false =>
    rw [hlong] at L
    clear hlong
    by_cases h300 : (300 : Int) < (ds.length : Int)
    · go_enter Try.func10, Try.ntmps10
      go_wp2_with (first | (go_at_call 21; refine L.out.mono ?_; rintro e w' ⟨rfl, rfl⟩) | (go_at_call 20; refine (S.out _).mono ?_; rintro e w' ⟨rfl, hb⟩))
      go_ret
      exact ⟨rfl, hb⟩
    · have T1 := Lib.hid (tAfter_any _ _ _ t l ds w V.out Y.out X.out)
      have T3 := Lib.hid (fun w1 hb => tWater_any _ _ _ t l ds w1 (V.out.below hb) (Y.out.below hb) (X.out.below hb))
      unfold GivesA at T1
      have WI := Lib.hid (show wIn t l ds = if runE t l ds = 0 then inK t l ds ds.length else 0 from rfl)
      have WO := Lib.hid (show wOut t l ds = if runE t l ds = 0 then outK t l ds ds.length else 0 from rfl)
      by_cases hre : runE t l ds = 0
      · obtain ⟨hT0, hL0, hD0⟩ := runE_zero hre
        have hrv : runV t l ds = lvK t l ds ds.length := by unfold runV; rw [if_pos hre, lvK_full]
        have hLn := lvK_lev hT0 hL0 hD0 ds.length (Nat.le_refl _)
        have hs := lv_sum hT0 hL0 hD0 ds.length (Nat.le_refl _)
        have l200 := ((areD_iff _ _).1 hD0).1
        have ht4 := hT0.hi
        rw [if_pos hre] at WI WO
        rw [WI.out, WO.out] at T3
        rw [hre] at T1 T3
        rw [hrv] at T1
        have SA := Lib.hid (fun W ov (h : IntsAt W ov (lvK t l ds ds.length)) => rSum_any ov _ W h (by rw [hLn.1]; omega) (fun j hj => hLn.bd hT0 j (by rw [hLn.1] at hj; exact hj)))
        have SB := Lib.hid (fun W (h : IntsAt W (.slice a1 l.length c1) l) => rSum_any _ _ W h (by rw [hL0.1]; omega) (fun j hj => hL0.bd hT0 j (by rw [hL0.1] at hj; exact hj)))
        have hs0 := take_bd (l := l) (fun j hj => hL0.bd hT0 j (by rw [hL0.1] at hj; exact hj)) l.length (Nat.le_refl _)
        rw [List.take_length] at hs0
        have hll := hL0.1
        clear hT0 hL0 hD0 hLn hre hrv WI WO
        generalize (lvK t l ds ds.length) = lv at *
        generalize lv.sum = S2 at *
        generalize l.sum = S1 at *
        generalize inK t l ds ds.length = ik at *
        generalize outK t l ds ds.length = ok at *
        have hk0 : (0 : Int) ≤ ik := by omega
        have hk1 : (0 : Int) ≤ ok := by omega
        have i1 := IntWalk.i64_in (S1 + ik) (by omega)
        have i2 := IntWalk.i64_in (S1 + ik - ok) (by omega)
        have hfin : S2 = S1 + ik - ok := hs.1
        clear hs hs0 hll
        subst hfin
        go_enter Try.func10, Try.ntmps10
        go_wp2_with (first | (go_at_call 21; refine L.out.mono ?_; rintro e w' ⟨rfl, rfl⟩))
        refine T1.out.mono ?_
        rintro e w1 ⟨ov, rfl, hov, hb1⟩
        have O1 := Lib.hid hov
        clear hov
        go_wp2_with fail
        refine (T3.out w1 hb1).mono ?_
        rintro e w2 ⟨rfl, hb2⟩
        have hc2 : Below w.heap.size w w2 := hb1.trans (hb2.mono hb1.size)
        have A1 := Lib.hid (SA.out w2 ov (O1.out.below hb2))
        have B1 := Lib.hid (SB.out w2 (Y.out.below hc2))
        clear T1 T3 SA SB
        go_wp2_with (first | (go_at_call 45; first | (with_reducible refine A1.out.mono ?_; rintro e w' ⟨rfl, rfl⟩) | (with_reducible refine B1.out.mono ?_; rintro e w' ⟨rfl, rfl⟩)) | (go_at_call 20; refine (S.out _).mono ?_; rintro e w6 ⟨rfl, hb6⟩))
        go_ret
        exact ⟨rfl, hc2.trans (hb6.mono hc2.size)⟩
      · rw [if_neg hre] at WI WO
        rw [WI.out, WO.out] at T3
        have hb2 : (runE t l ds != 0) = true := bne_iff_ne.2 hre
        clear WI WO
        generalize runE t l ds = re at *
        go_enter Try.func10, Try.ntmps10
        go_wp2_with (first | (go_at_call 21; refine L.out.mono ?_; rintro e w' ⟨rfl, rfl⟩))
        refine T1.out.mono ?_
        rintro e w1 ⟨ov, rfl, hov, hb1⟩
        clear hov
        go_wp2_with fail
        refine (T3.out w1 hb1).mono ?_
        rintro e w2 ⟨rfl, hb3⟩
        have hc2 : Below w.heap.size w w2 := hb1.trans (hb3.mono hb1.size)
        clear T1 T3
        go_wp2_with (first | (go_at_call 20; refine (S.out _).mono ?_; rintro e w6 ⟨rfl, hb6⟩))
        go_ret
        exact ⟨rfl, hc2.trans (hb6.mono hc2.size)⟩

end Go.Proofs.Ytikcpfpeoofppaa
