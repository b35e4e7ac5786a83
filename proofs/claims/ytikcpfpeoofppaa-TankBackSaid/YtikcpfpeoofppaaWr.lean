/- Contracts: which deeds change levels (Ways of the reference), and Back of the reference. -/
import Derived.Test.YtikcpfpeoofppaaWs
import Derived.Test.YtikcpfpeoofppaaBt
namespace Go.Proofs.Ytikcpfpeoofppaa
open Go.RowKit

set_option maxRecDepth 100000 in
set_option maxHeartbeats 4000000 in
theorem rWays_any (v y : Value) (t l : List Int) (w : World) (hv : IntsAt w v t) (hy : IntsAt w y l) :
    Calls Try.prog 33 #[v, y] w (GivesDE (wyL t l) (wyE t l) w) := by
  have A1 := Lib.hid (rAsked_any v y t l w hv hy)
  have V := Lib.hid hv
  have Y := Lib.hid hy
  obtain ⟨ya, ycap, rfl, _⟩ := hy
  obtain ⟨va, vcap, rfl, _⟩ := hv
  have EE : Hid (wyE t l = askE t [l]) := Lib.hid rfl
  by_cases h1 : askE t [l] = 0
  · have AZ := askE_zero h1
    have HT := Lib.hid AZ.1
    have HL := Lib.hid AZ.2
    have hlo := AZ.1.lo
    have hhi := AZ.1.hi
    have EL := Lib.hid (show wyL t l = waysF t l (deedsL t.length) by unfold wyL; rw [if_pos h1])
    rw [h1] at A1 EE
    clear h1 AZ
    obtain ⟨i0, hi0, hz0, hz1, hz2⟩ := info_parts Try.infoDeed
    go_enter Try.func33, Try.ntmps33
    go_wp2_with fail
    refine A1.out.mono ?_
    rintro e w1 ⟨rfl, hb1⟩
    have HB1 := Lib.hid hb1
    clear hb1 A1
    go_wp2_with fail
    refine (rDeeds_any t.length hhi w1).mono ?_
    rintro e w2 ⟨xa, rfl, hxa, hb2⟩
    have HB2 := Lib.hid (HB1.out.trans (hb2.mono HB1.out.size))
    have hdl := deedsL_pos hlo hhi
    obtain ⟨ga, gcap, rfl, hgl, hgq⟩ := hxa
    obtain ⟨gb, go, rfl, hgc⟩ := hgq (by omega)
    have HGC := Lib.hid hgc
    clear hb2 hgc hgq hgl
    generalize hM : (deedsL t.length).length = M at *
    have HM := Lib.hid hM
    clear hM
    go_wp2
    go_loopw [7, 9] (fun s i wr => ∃ k : Nat, k ≤ M ∧ i = .int .i64 k ∧ wr.ownsRow w2.heap.size 43 3 s (waysF t l ((deedsL t.length).take k)).length (flatD (waysF t l ((deedsL t.length).take k))) ∧ Below w2.heap.size w2 wr) (fun _ i _ => M - (intOf i).toNat)
    case atStart => exact ⟨0, Nat.zero_le _, rfl, World.ownsRow_nil _ _ _ _, Below.refl _ _⟩
    case round =>
      obtain ⟨k, hk, rfl, hrow, hbel⟩ := hrel
      by_cases hlt : k < M
      · have hlt' : (k : Int) < (M : Int) := by omega
        obtain ⟨x1, x2, x3⟩ := HGC.out k hlt
        have z1 := keep_cell hbel x1
        have z2 := keep_cell hbel x2
        have z3 := keep_cell hbel x3
        have hd := mem_deedsL.1 (getD_mem (show k < (deedsL t.length).length by rw [HM.out]; exact hlt) noDeed)
        have TS := Lib.hid (show waysF t l ((deedsL t.length).take (k + 1)) = waysF t l ((deedsL t.length).take k) ++ (if doneL t l ((deedsL t.length).getD k noDeed) = l then [] else [(deedsL t.length).getD k noDeed]) by
          rw [List.take_succ_eq_append_getElem (by rw [HM.out]; exact hlt), waysF_snoc]
          simp [List.getD_eq_getElem?_getD, show k < (deedsL t.length).length by rw [HM.out]; exact hlt])
        have LB := Lib.hid (show (waysF t l ((deedsL t.length).take k)).length ≤ 24 from Nat.le_trans (waysF_len _ _ _) (Nat.le_trans (by rw [List.length_take]; exact Nat.min_le_left _ _) (by omega)))
        clear x1 x2 x3
        generalize (deedsL t.length).getD k noDeed = d at *
        obtain ⟨d1, d2, d3⟩ := d
        simp only at z1 z2 z3
        have hbw := HB2.out.trans (hbel.mono HB2.out.size)
        have DN := Lib.hid (rDone_any _ _ t l (d1, d2, d3) wr (V.out.below hbw) HT.out (Y.out.below hbw) HL.out hd)
        simp only [deedV] at DN
        have HLEV := Lib.hid (doneL_lev HT.out HL.out hd)
        have HBW := Lib.hid hbw
        have HBL := Lib.hid hbel
        have HRW := Lib.hid hrow
        clear hbw hbel hrow hd
        generalize doneL t l (d1, d2, d3) = nd at *
        go_wp2_with fail
        refine DN.out.mono ?_
        rintro e w3 ⟨vn, rfl, hvn, hb3, _⟩
        have HB3 := Lib.hid hb3
        have RN1 := Lib.hid (rNumber_any _ vn t nd w3 ((V.out.below HBW.out).below hb3) hvn HT.out HLEV.out)
        clear hb3 hvn DN
        go_wp2_with fail
        refine RN1.out.mono ?_
        rintro e w4 ⟨rfl, hb4⟩
        have HB4 := Lib.hid (HB3.out.trans (hb4.mono HB3.out.size))
        have RN2 := Lib.hid (rNumber_any _ _ t l w4 ((V.out.below HBW.out).below HB4.out) ((Y.out.below HBW.out).below HB4.out) HT.out HL.out)
        clear hb4 RN1
        go_wp2_with fail
        refine RN2.out.mono ?_
        rintro e w5 ⟨rfl, hb5⟩
        have hb5' := HB4.out.trans (hb5.mono HB4.out.size)
        have hrow5 := own_below HRW.out hb5'
        have hbel5 := HBL.out.trans (hb5'.mono HBL.out.size)
        have y1 := keep_cell hb5' z1
        have y2 := keep_cell hb5' z2
        have y3 := keep_cell hb5' z3
        clear z1 z2 z3 hb5 hb5' RN2
        by_cases hx : nd = l
        · rw [if_pos hx, List.append_nil] at TS
          rw [hx]
          have HBL5 := Lib.hid hbel5
          have HRW5 := Lib.hid hrow5
          clear hbel5 hrow5 hx
          generalize numR t l = nl at *
          go_wp2
          go_roundw
          case rel => exact ⟨k + 1, by omega, by go_num, by rw [TS.out]; exact HRW5.out, HBL5.out⟩
          case measure => simp [intOf]; omega
        · rw [if_neg hx] at TS
          have hne : (((numR t nd : Nat) : Int) != ((numR t l : Nat) : Int)) = true := bne_iff_ne.2 (fun h => hx (numR_inj HLEV.out HL.out (by omega)))
          generalize numR t l = nl at *
          generalize numR t nd = nn at *
          have hs5 := hbel5.size
          clear hx
          go_wp2_with (at_builtin; refine wpList_append_own _ rfl _ _ 22 rfl w2.heap.size 43 i0 (.agg #[.int .i64 0, .int .i64 0, .int .i64 0]) 3 24 Try.underlying22 hi0 hz0 hz1 hz2 rfl (by decide) _ _ _ rfl (hrow5.alloc _) ⟨w5.heap.size, 0, none⟩ 1 1 [.int .i64 d1, .int .i64 d2, .int .i64 d3] rfl rfl (cell3_new _ _ _ _ _ rfl) ?c2 ?c3 ?c4 ?c5 ?_)
          case c2 => intro u hu; simp at hu; rcases hu with rfl | rfl | rfl <;> rfl
          case c3 => have := LB.out; unfold maxLen; omega
          case c4 => have := LB.out; omega
          case c5 => simp; omega
          intro v' w6 hown' hgrow _
          have R := Lib.hid (below_append hbel5 hbel5.size hrow5 hgrow)
          have OW := Lib.hid (show w6.ownsRow w2.heap.size 43 3 v' (waysF t l ((deedsL t.length).take (k + 1))).length (flatD (waysF t l ((deedsL t.length).take (k + 1)))) by
            rw [TS.out, flatD_append, List.length_append, flatD_one]
            exact hown')
          clear hgrow hown' hrow5 hbel5
          go_wp2
          go_roundw
          case rel => exact ⟨k + 1, by omega, by go_num, OW.out, R.out⟩
          case measure => simp [intOf]; omega
      · obtain rfl : k = M := by omega
        have HR := Lib.hid (show DeedsAt wr _ (wyL t l) by
          rw [EL.out, ← show (deedsL t.length).take k = deedsL t.length by rw [← HM.out, List.take_length]]
          exact own_deeds hrow (Nat.le_trans (waysF_len _ _ _) (Nat.le_trans (by rw [List.length_take]; exact Nat.min_le_left _ _) (by omega))))
        have HBX := Lib.hid (HB2.out.trans (hbel.mono HB2.out.size))
        clear hrow hbel
        go_wp2
        refine bodyPost_ret (v := .tuple #[u7, .int .i64 0]) (by simp [results, Try.results33, go_sem]) rfl ⟨_, by rw [EE.out], HR.out, HBX.out⟩
  · have EL := Lib.hid (show wyL t l = [] by unfold wyL; rw [if_neg h1])
    generalize askE t [l] = ae at *
    have hb : (ae != 0) = true := bne_iff_ne.2 h1
    clear h1
    go_enter Try.func33, Try.ntmps33
    go_wp2_with fail
    refine A1.out.mono ?_
    rintro e w1 ⟨rfl, hb1⟩
    have HB1 := Lib.hid hb1
    clear hb1
    go_wp2
    refine bodyPost_ret (v := .tuple #[.slice none 0 0, .int .i64 ae]) (by simp [results, Try.results33, go_sem]) rfl ⟨_, by rw [EE.out], by rw [EL.out]; exact deeds_nil _, HB1.out⟩

/-- Back of the reference. -/
theorem bt_zeros {t l : List Int} (h : askE t [l] = 0) : btE t (zerosL t) l = if (way t (zerosL t) (eqG l)).isSome then 0 else 5 := by
  obtain ⟨ht, hl⟩ := askE_zero h
  have h2 : askE t [zerosL t, l] = 0 := by rw [askE_both, askE_zeros ht, if_pos rfl, h]
  unfold btE
  rw [if_pos h2]

set_option maxHeartbeats 2000000 in
theorem rBack_any (v y : Value) (t l : List Int) (w : World) (hv : IntsAt w v t) (hy : IntsAt w y l) :
    Calls Try.prog 31 #[v, y] w fun e w' => e = .returned (.tuple #[.bool (backV t l), .int .i64 (askE t [l])]) ∧ Below w.heap.size w w' := by
  have A1 := Lib.hid (rAsked_any v y t l w hv hy)
  have V := Lib.hid hv
  have Y := Lib.hid hy
  obtain ⟨ya, ycap, rfl, _⟩ := hy
  obtain ⟨va, vcap, rfl, _⟩ := hv
  by_cases h1 : askE t [l] = 0
  · have AZ := askE_zero h1
    have hhi := AZ.1.hi
    have BZ := Lib.hid (bt_zeros h1)
    have BV := Lib.hid (show backV t l = (way t (zerosL t) (eqG l)).isSome by unfold backV; rw [if_pos h1])
    rw [h1] at A1 ⊢
    clear h1 AZ
    go_enter Try.func31, Try.ntmps31
    go_wp2_with fail
    refine A1.out.mono ?_
    rintro e w1 ⟨rfl, hb1⟩
    have HB1 := Lib.hid hb1
    have EM := Lib.hid (rEmpty_any _ t w1 (V.out.below hb1) (by omega))
    clear hb1 A1
    go_wp2_with fail
    refine EM.out.mono ?_
    rintro e w2 ⟨ev, rfl, hev, hb2, _⟩
    have HB2 := Lib.hid (HB1.out.trans (hb2.mono HB1.out.size))
    have BT := Lib.hid (rBetween_any _ ev _ t (zerosL t) l w2 (V.out.below HB2.out) hev (Y.out.below HB2.out))
    clear hb2 hev EM
    cases hs : (way t (zerosL t) (eqG l)).isSome with
    | true =>
      rw [hs] at BZ BV
      have BE := Lib.hid (show btE t (zerosL t) l = 0 by rw [BZ.out]; rfl)
      unfold GivesDE at BT
      rw [BE.out] at BT
      clear hs BZ
      go_wp2_with fail
      refine BT.out.mono ?_
      rintro e w3 ⟨ov, rfl, hov, hb3⟩
      have HB3 := Lib.hid (HB2.out.trans (hb3.mono HB2.out.size))
      obtain ⟨oa, oc, rfl, _⟩ := hov
      clear hb3
      go_wp2
      go_ret2
      exact ⟨by rw [BV.out]; rfl, HB3.out⟩
    | false =>
      rw [hs] at BZ BV
      have BE := Lib.hid (show btE t (zerosL t) l = 5 by rw [BZ.out]; rfl)
      unfold GivesDE at BT
      rw [BE.out] at BT
      clear hs BZ
      go_wp2_with fail
      refine BT.out.mono ?_
      rintro e w3 ⟨ov, rfl, hov, hb3⟩
      have HB3 := Lib.hid (HB2.out.trans (hb3.mono HB2.out.size))
      obtain ⟨oa, oc, rfl, _⟩ := hov
      clear hb3
      go_wp2
      go_ret2
      exact ⟨by rw [BV.out]; rfl, HB3.out⟩
  · have BV := Lib.hid (show backV t l = false by unfold backV; rw [if_neg h1])
    generalize askE t [l] = ae at *
    have hb : (ae != 0) = true := bne_iff_ne.2 h1
    clear h1
    go_enter Try.func31, Try.ntmps31
    go_wp2_with fail
    refine A1.out.mono ?_
    rintro e w1 ⟨rfl, hb1⟩
    have HB1 := Lib.hid hb1
    clear hb1
    go_wp2
    go_ret2
    exact ⟨by rw [BV.out]; rfl, HB1.out⟩

end Go.Proofs.Ytikcpfpeoofppaa
