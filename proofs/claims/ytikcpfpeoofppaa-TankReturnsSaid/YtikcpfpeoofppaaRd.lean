/- Contracts: Deeds and Least of the reference, and the law TankLeast: the walk. -/
import Derived.Test.YtikcpfpeoofppaaGw
import Derived.Test.YtikcpfpeoofppaaWy
import Derived.Test.YtikcpfpeoofppaaLawF
namespace Go.Proofs.Ytikcpfpeoofppaa
open Go.RowKit

theorem made_ints {t : List Int} {base : Nat} {e : TypeId} {v : Value} {w : World} (h : w.ownsRow base e 1 v t.length (madeCells (Value.int .i64 0).cells (t.length * 1)).toList) (hl : t.length ≤ 9223372036854775807) : IntsAt w v (zerosL t) := by
  have hzl : (zerosL t).length = t.length := by simp [zerosL]
  rw [made_zeros, ← hzl] at h
  exact own_ints h (by rw [hzl]; exact hl)

theorem rEmpty_any (v : Value) (t : List Int) (w : World) (hv : IntsAt w v t) (ht : t.length ≤ 20) :
    Calls Try.prog 64 #[v] w (GivesI (zerosL t) w) := by
  obtain ⟨a, cap, rfl, hl, _⟩ := hv
  obtain ⟨j0, hj0, hy0, hy1, hy2⟩ := info_parts Try.infoInt
  go_enter Try.func64, Try.ntmps64
  go_wp2_with (at_make; refine wpList_make_full _ rfl _ _ 29 rfl w.heap.size 3 j0 (.int .i64 0) 1 Try.underlying29 hj0 hy0 hy1 .i64 .i64 _ _ t.length rfl rfl rfl rfl (by rw [hy2]; omega) (by unfold maxLen; omega) (Nat.le_refl _) ?_; intro w2 hown2 hgrow2)
  have hb2 : Below w.heap.size w w2 := (Below.refl _ _).grown hgrow2 (Nat.le_refl _) (fun k e => by cases e)
  have hz := Lib.hid (made_ints hown2 hl)
  clear hown2 hgrow2
  go_ret
  exact ⟨_, rfl, hz.out, hb2, fun i hi => by simp [Value.ownBlock] at hi; omega⟩

theorem dE_way {t : List Int} {i n : Int} (h : amtE t i n = 0) : dE t i n = (if (way t (zerosL t) (amtG i n)).isSome then 0 else 5) ∧ dL t i n = (way t (zerosL t) (amtG i n)).getD [] := by
  unfold dE dL
  rw [if_pos h, if_pos h]
  exact ⟨rfl, rfl⟩

set_option maxRecDepth 100000 in
set_option maxHeartbeats 2000000 in
theorem rLeastDeeds_any (v : Value) (t : List Int) (i n : Int) (w : World) (hv : IntsAt w v t) :
    Calls Try.prog 25 #[v, .int .i64 i, .int .i64 n] w (GivesDE (dL t i n) (dE t i n) w) := by
  have A := Lib.hid (rAmounted_any v t i n w hv)
  have V := Lib.hid hv
  obtain ⟨a, cap, rfl, _⟩ := hv
  by_cases hz : amtE t i n = 0
  · obtain ⟨ht, hi0, hi1, hn0, hn1⟩ := amtE_zero hz
    obtain ⟨h1, h2⟩ := dE_way hz
    have HDE := Lib.hid h1
    have HDL := Lib.hid h2
    have hhi := ht.hi
    have hzl := zeros_lev ht
    have HT := Lib.hid ht
    have HZ := Lib.hid hzl
    have HI := Lib.hid (And.intro hi0 hi1)
    have FG := Lib.hid (full_good ht hzl)
    have EM := Lib.hid (rEmpty_any _ t w V.out (by omega))
    have HWY : Hid (way t (zerosL t) (amtG i n) = (hit (full t (zerosL t)) (amtG i n)).map (fun e => e.2.1)) := Lib.hid rfl
    rw [hz] at A
    clear hz h1 h2 ht hzl hi0 hi1 hn0 hn1
    go_enter Try.func25, Try.ntmps25
    go_wp2_with (first | (go_at_call 62; refine A.out.mono ?_; rintro e w' ⟨rfl, rfl⟩))
    refine EM.out.mono ?_
    rintro e w1 ⟨ev, rfl, hev, hb1, _⟩
    have GR := Lib.hid (rGrow_any _ ev t (zerosL t) w1 (V.out.below hb1) hev HT.out HZ.out)
    go_wp2_with fail
    refine GR.out.mono ?_
    rintro e w2 ⟨Bx, go, gc, gf, gb, rfl, hT2, hb2⟩
    have HB2 := Lib.hid (below_trans hb1 hb2)
    have HT2 := Lib.hid hT2
    have HA := Lib.hid (rHad_any _ i n HT.out FG.out HI.out w2 (V.out.below HB2.out) hT2)
    clear hT2 hb1 hb2 hev GR EM
    go_wp2_with fail
    refine HA.out.mono ?_
    rintro e w3 ⟨rfl, hb3⟩
    have HB3 := Lib.hid (HB2.out.trans (hb3.mono HB2.out.size))
    have HT3 := Lib.hid (HT2.out.below hb3)
    clear hb3 HA
    cases hh : hit (full t (zerosL t)) (amtG i n) with
    | none =>
      have HAD := Lib.hid (show hadN t (full t (zerosL t)) (amtG i n) = -1 by unfold hadN; rw [hh])
      rw [hh] at HWY
      have R1 := Lib.hid (show dE t i n = 5 by rw [HDE.out, HWY.out]; rfl)
      have R2 := Lib.hid (show dL t i n = [] by rw [HDL.out, HWY.out]; rfl)
      rw [HAD.out]
      clear hh
      go_wp2
      refine bodyPost_ret (v := .tuple #[.slice none 0 0, .int .i64 5]) (by simp [results, Try.results25, go_sem]) rfl ⟨_, by rw [R1.out], by rw [R2.out]; exact deeds_nil _, HB3.out⟩
    | some x =>
      have HAD := Lib.hid (show hadN t (full t (zerosL t)) (amtG i n) = ((numR t x.1 : Nat) : Int) by unfold hadN; rw [hh])
      rw [hh] at HWY
      have R1 := Lib.hid (show dE t i n = 0 by rw [HDE.out, HWY.out]; rfl)
      have R2 := Lib.hid (show dL t i n = x.2.1 by rw [HDL.out, HWY.out]; rfl)
      have hx := (hit_some hh).1
      have WY := Lib.hid (rWay_any HT.out FG.out hx w3 HT3.out)
      rw [HAD.out]
      have hnx : ¬ (((numR t x.1 : Nat) : Int) < 0) := by omega
      generalize numR t x.1 = nx at *
      clear hh hx
      go_wp2_with fail
      refine WY.out.mono ?_
      rintro e w4 ⟨ov, rfl, hov, hb4⟩
      have HO := Lib.hid hov
      have HB4 := Lib.hid (HB3.out.trans (hb4.mono HB3.out.size))
      obtain ⟨oa, oc, rfl, _⟩ := hov
      clear hb4
      go_wp2
      refine bodyPost_ret (v := .tuple #[.slice oa x.2.1.length oc, .int .i64 0]) (by simp [results, Try.results25, go_sem]) rfl ⟨_, by rw [R1.out], by rw [R2.out]; exact HO.out, HB4.out⟩
  · have HE := Lib.hid (show dE t i n = amtE t i n by unfold dE; rw [if_neg hz])
    have HL := Lib.hid (show dL t i n = [] by unfold dL; rw [if_neg hz])
    generalize amtE t i n = ae at *
    have hb : (ae != 0) = true := bne_iff_ne.2 hz
    clear hz
    go_enter Try.func25, Try.ntmps25
    go_wp2_with (first | (go_at_call 62; refine A.out.mono ?_; rintro e w' ⟨rfl, rfl⟩))
    refine bodyPost_ret (v := .tuple #[.slice none 0 0, .int .i64 ae]) (by simp [results, Try.results25, go_sem]) rfl ⟨_, by rw [HE.out], by rw [HL.out]; exact deeds_nil _, Below.refl _ _⟩

set_option maxHeartbeats 1000000 in
theorem rLeast_any (v : Value) (t : List Int) (i n : Int) (w : World) (hv : IntsAt w v t) :
    Calls Try.prog 23 #[v, .int .i64 i, .int .i64 n] w fun e w' => e = .returned (.tuple #[.int .i64 (dL t i n).length, .int .i64 (dE t i n)]) ∧ Below w.heap.size w w' := by
  have A := Lib.hid (rLeastDeeds_any v t i n w hv)
  obtain ⟨a, cap, rfl, _⟩ := hv
  generalize dE t i n = de at *
  generalize dL t i n = dl at *
  go_enter Try.func23, Try.ntmps23
  go_wp2_with fail
  refine A.out.mono ?_
  rintro e w1 ⟨ov, rfl, hov, hb1⟩
  obtain ⟨oa, ocap, rfl, _⟩ := hov
  go_wp2
  go_ret2
  exact ⟨rfl, hb1⟩

set_option maxHeartbeats 2000000 in
theorem TankLeast_walk (v : Value) (t : List Int) (i n : Int) (w : World) (hv : IntsAt w v t) :
    Calls Try.prog 4 #[v, .int .i64 i, .int .i64 n] w fun e w' => e = .returned (.bool true) ∧ Below w.heap.size w w' := by
  have L := Lib.hid (long_any v (.slice none 0 0) t [] w hv (ints_nil w))
  have V := Lib.hid hv
  have S := Lib.hid sane_any
  have C1 := Lib.hid (tLeast_any v t i n w hv)
  have C2 := Lib.hid (fun w1 hb => rLeast_any v t i n w1 (V.out.below hb))
  have C3 := Lib.hid (fun w1 hb => tDeeds_any v t i n w1 (V.out.below hb))
  have C4 := Lib.hid (fun w1 hb => rLeastDeeds_any v t i n w1 (V.out.below hb))
  obtain ⟨a0, c0, rfl, hl0, _⟩ := hv
  generalize dE t i n = de at *
  generalize dL t i n = dl at *
  cases hlong : (decide (20 < t.length) || decide (20 < ([] : List Int).length)) with
  | true =>
    rw [hlong] at L
    clear hlong
    go_enter Try.func4, Try.ntmps4
    go_wp2_with (first | (go_at_call 21; refine L.out.mono ?_; rintro e w' ⟨rfl, rfl⟩) | (go_at_call 20; refine (S.out _).mono ?_; rintro e w' ⟨rfl, hbS⟩))
    go_ret
    exact ⟨rfl, hbS⟩
  | false =>
    rw [hlong] at L
    clear hlong
    go_enter Try.func4, Try.ntmps4
    go_wp2_with (first | (go_at_call 21; refine L.out.mono ?_; rintro e w' ⟨rfl, rfl⟩))
    refine C1.out.mono ?_
    rintro e w1 ⟨rfl, hb1⟩
    go_wp2_with fail
    refine (C2.out w1 hb1).mono ?_
    rintro e w2 ⟨rfl, hb2⟩
    have hc2 : Below w.heap.size w w2 := hb1.trans (hb2.mono hb1.size)
    go_wp2_with fail
    refine (C3.out w2 hc2).mono ?_
    rintro e w3 ⟨ov3, rfl, hov3, hb3⟩
    have hc3 : Below w.heap.size w w3 := hc2.trans (hb3.mono hc2.size)
    have O3 := Lib.hid hov3
    obtain ⟨oa3, oc3, rfl, _⟩ := hov3
    go_wp2_with fail
    refine (C4.out w3 hc3).mono ?_
    rintro e w4 ⟨ov4, rfl, hov4, hb4⟩
    have hc4 : Below w.heap.size w w4 := hc3.trans (hb4.mono hc3.size)
    have SD := Lib.hid (sameDeeds_any _ _ dl dl w4 (O3.out.below hb4) hov4)
    rw [decide_eq_true rfl] at SD
    obtain ⟨oa4, oc4, rfl, _⟩ := hov4
    have HC := Lib.hid hc4
    clear C1 C2 C3 C4 hb1 hb2 hb3 hb4 hc2 hc3 hc4 L O3
    go_wp2_with (first | (go_at_call 19; refine SD.out.mono ?_; rintro e w5 ⟨rfl, hb5⟩) | (go_at_call 20; refine (S.out _).mono ?_; rintro e w' ⟨rfl, hbS⟩))
    go_ret
    have h5 := HC.out.trans (hb5.mono HC.out.size)
    exact ⟨rfl, h5.trans (hbS.mono h5.size)⟩

end Go.Proofs.Ytikcpfpeoofppaa
