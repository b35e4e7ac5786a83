/- Contracts: Between of both, and the law TankBetween: the walk. -/
import Derived.Test.YtikcpfpeoofppaaRd
import Derived.Test.YtikcpfpeoofppaaSf
namespace Go.Proofs.Ytikcpfpeoofppaa
open Go.RowKit Go.Shelf

def btE (t l m : List Int) : Int := if askE t [l, m] = 0 then (if (way t l (eqG m)).isSome then 0 else 5) else askE t [l, m]
def btL (t l m : List Int) : List Deed := if askE t [l, m] = 0 then (way t l (eqG m)).getD [] else []

theorem askE_both (t l m : List Int) : askE t [l, m] = if askE t [l] = 0 then askE t [m] else askE t [l] := by
  unfold askE
  cases h : tvl t with
  | false => rfl
  | true =>
    cases h1 : levB t l <;> cases h2 : levB t m <;> simp [h1, h2]
theorem askE_pair {t l m : List Int} (h : askE t [l, m] = 0) : Tvl t ∧ Lev t l ∧ Lev t m := by
  rw [askE_both] at h
  by_cases h1 : askE t [l] = 0
  · rw [if_pos h1] at h
    exact ⟨(askE_zero h1).1, (askE_zero h1).2, (askE_zero h).2⟩
  · rw [if_neg h1] at h
    exact absurd h h1

theorem rows_two {w : World} {x y : Value} {l m : List Int} {t : TypeId} (h : IntsAt w x l) (h' : IntsAt w y m) : RowsAt (w.alloc (.cells #[x, y] t)) (.slice (some ⟨w.heap.size, 0, none⟩) 2 2) [l, m] := by
  have hb := (Below.refl w.heap.size w).alloc (Nat.le_refl _) (.cells #[x, y] t)
  refine ⟨some ⟨w.heap.size, 0, none⟩, 2, rfl, by simp, fun _ => ⟨w.heap.size, 0, rfl, fun i hi => ?_⟩⟩
  rcases i with _ | _ | i
  · exact ⟨x, by simp, h.below hb⟩
  · exact ⟨y, by simp, h'.below hb⟩
  · simp at hi; omega

set_option maxRecDepth 100000 in
set_option maxHeartbeats 2000000 in
theorem betweenGoal_any (Bx g cap : Nat) (t l l' : List Int) (w : World) (ht : Tvl t) (hl : Lev t l) (hl' : Lev t l') (hx : w.cell? ⟨Bx, 0, none⟩ = some (.slice (some ⟨g, 0, none⟩) 2 cap)) (hc : ∀ c, c < 4 → w.cell? ⟨g, 4 + c, none⟩ = some (.int .i64 (l.getD c 0))) :
    Calls Try.prog 73 #[pad l', .pointer (some ⟨Bx, 0, none⟩)] w fun e w' => e = .returned (.bool (eqG l l')) ∧ Below w.heap.size w w' := by
  have hal : Below w.heap.size w (w.alloc (.cells #[.int .i64 (l'.getD 0 0), .int .i64 (l'.getD 1 0), .int .i64 (l'.getD 2 0), .int .i64 (l'.getD 3 0)] 66)) := (Below.refl _ w).alloc (Nat.le_refl _) _
  have cx := keep_cell hal hx
  have c0 := keep_cell hal (hc 0 (by omega))
  have c1 := keep_cell hal (hc 1 (by omega))
  have c2 := keep_cell hal (hc 2 (by omega))
  have c3 := keep_cell hal (hc 3 (by omega))
  have HA := Lib.hid hal
  have hq : ∀ W, (Op.equalIn 10000 66 (.agg #[.int .i64 (l'.getD 0 0), .int .i64 (l'.getD 1 0), .int .i64 (l'.getD 2 0), .int .i64 (l'.getD 3 0)]) (.agg #[.int .i64 (l.getD 0 0), .int .i64 (l.getD 1 0), .int .i64 (l.getD 2 0), .int .i64 (l.getD 3 0)])).run Try.prog W = .ok (eqG l l') W := fun W => eq_run ht hl' hl W
  unfold pad levV
  generalize eqG l l' = bb at *
  clear hal hx hc hl hl'
  generalize l'.getD 0 0 = x0 at *
  generalize l'.getD 1 0 = x1 at *
  generalize l'.getD 2 0 = x2 at *
  generalize l'.getD 3 0 = x3 at *
  generalize l.getD 0 0 = y0 at *
  generalize l.getD 1 0 = y1 at *
  generalize l.getD 2 0 = y2 at *
  generalize l.getD 3 0 = y3 at *
  obtain ⟨W0, hW0⟩ : ∃ W0, W0 = w.alloc (.cells #[.int .i64 x0, .int .i64 x1, .int .i64 x2, .int .i64 x3] 66) := ⟨_, rfl⟩
  have b0 : W0.cell? ⟨w.heap.size, 0, none⟩ = some (.int .i64 x0) := by rw [hW0]; simp
  have b1 : W0.cell? ⟨w.heap.size, 1, none⟩ = some (.int .i64 x1) := by rw [hW0]; simp
  have b2 : W0.cell? ⟨w.heap.size, 2, none⟩ = some (.int .i64 x2) := by rw [hW0]; simp
  have b3 : W0.cell? ⟨w.heap.size, 3, none⟩ = some (.int .i64 x3) := by rw [hW0]; simp
  rw [← hW0] at cx c0 c1 c2 c3 HA
  have r0 : ∀ W, KB W0 W → W.cell? ⟨w.heap.size, 0, none⟩ = some (.int .i64 x0) := fun W h => kb_cell h b0
  have r1 : ∀ W, KB W0 W → W.cell? ⟨w.heap.size, 1, none⟩ = some (.int .i64 x1) := fun W h => kb_cell h b1
  have r2 : ∀ W, KB W0 W → W.cell? ⟨w.heap.size, 2, none⟩ = some (.int .i64 x2) := fun W h => kb_cell h b2
  have r3 : ∀ W, KB W0 W → W.cell? ⟨w.heap.size, 3, none⟩ = some (.int .i64 x3) := fun W h => kb_cell h b3
  have r4 : ∀ W, KB W0 W → W.cell? ⟨Bx, 0, none⟩ = some (.slice (some ⟨g, 0, none⟩) 2 cap) := fun W h => kb_cell h cx
  have r5 : ∀ W, KB W0 W → W.cell? ⟨g, 4, none⟩ = some (.int .i64 y0) := fun W h => kb_cell h c0
  have r6 : ∀ W, KB W0 W → W.cell? ⟨g, 5, none⟩ = some (.int .i64 y1) := fun W h => kb_cell h c1
  have r7 : ∀ W, KB W0 W → W.cell? ⟨g, 6, none⟩ = some (.int .i64 y2) := fun W h => kb_cell h c2
  have r8 : ∀ W, KB W0 W → W.cell? ⟨g, 7, none⟩ = some (.int .i64 y3) := fun W h => kb_cell h c3
  have HW0 := Lib.hid hW0
  clear cx c0 c1 c2 c3 b0 b1 b2 b3 hW0
  go_enter Try.func73, Try.ntmps73
  go_wp2
  rw [← HW0.out]
  go_region_held3 (fun W => KB W0 W) (exact Below.drew (Below.refl _ _)) (fail)
  all_goals go_wp2
  all_goals go_ret
  all_goals exact ⟨rfl, HA.out.drew⟩

set_option maxRecDepth 100000 in
set_option maxHeartbeats 2000000 in
theorem tBetween_any (v y z : Value) (t l m : List Int) (w : World) (hv : IntsAt w v t) (hy : IntsAt w y l) (hz : IntsAt w z m) :
    Calls Try.prog 34 #[v, y, z] w (GivesDE (btL t l m) (btE t l m) w) := by
  have hB1 := (Below.refl w.heap.size w).alloc (Nat.le_refl _) (.cells #[y, z] 29)
  have A := Lib.hid (asked2_any v _ t [l, m] _ (hv.below hB1) (rows_two (t := 29) hy hz) (by simp))
  have HB1 := Lib.hid hB1
  have V := Lib.hid hv
  obtain ⟨ya, ycap, rfl, _⟩ := hy
  obtain ⟨za, zcap, rfl, _⟩ := hz
  obtain ⟨va, vcap, rfl, _⟩ := hv
  by_cases hask : askE t [l, m] = 0
  · have AZ := askE_pair hask
    have HT := Lib.hid AZ.1
    have HL := Lib.hid AZ.2.1
    have HM := Lib.hid AZ.2.2
    have HDE := Lib.hid (show btE t l m = if (way t l (eqG m)).isSome then 0 else 5 by unfold btE; rw [if_pos hask])
    have HDL := Lib.hid (show btL t l m = (way t l (eqG m)).getD [] by unfold btL; rw [if_pos hask])
    rw [hask] at A
    clear AZ hask hB1
    go_enter Try.func34, Try.ntmps34
    go_wp2_with fail
    refine A.out.mono ?_
    rintro e w1 ⟨ov, rfl, hov, _, hb1⟩
    have hrow := hov (by first | trivial | rfl)
    obtain ⟨g, cap, rfl⟩ : ∃ g cap, ov = .slice (some ⟨g, 0, none⟩) 2 cap := by
      rcases hrow.2 with ⟨_, h⟩ | ⟨g, cap, cur, h, _⟩
      · simp at h
      · exact ⟨g, cap, h⟩
    have hcell0 : ∀ c, c < 4 → w1.cell? ⟨g, c, none⟩ = some (.int .i64 (l.getD c 0)) := fun c hc => by
      have h1 := hrow.cellAt c (by simp; omega)
      rw [h1]
      have := flatP_at [l, m] 0 c (by simp) hc
      simpa using this
    have hcell1 : ∀ c, c < 4 → w1.cell? ⟨g, 4 + c, none⟩ = some (.int .i64 (m.getD c 0)) := fun c hc => by
      have h1 := hrow.cellAt (4 + c) (by simp; omega)
      rw [h1]
      have := flatP_at [l, m] 1 c (by simp) hc
      simpa using this
    have hb2 : Below w.heap.size w w1 := HB1.out.trans (hb1.mono (by simp))
    have hal : Below w1.heap.size w1 (w1.alloc (.cells #[.slice (some ⟨g, 0, none⟩) 2 cap] 82)) := (Below.refl _ w1).alloc (Nat.le_refl _) _
    have hb3 : Below w.heap.size w (w1.alloc (.cells #[.slice (some ⟨g, 0, none⟩) 2 cap] 82)) := hb2.trans (hal.mono hb2.size)
    have NS := Lib.hid (newSearch_any (eqG m) 73 #[.pointer (some ⟨w1.heap.size, 0, none⟩)] (enters_of Try.func73 (by kernel_rfl) rfl) _ t l (w1.alloc (.cells #[.slice (some ⟨g, 0, none⟩) 2 cap] 82)) (V.out.below hb3) HT.out HL.out
      (fun W l' hW hl' => betweenGoal_any w1.heap.size g cap t m l' W HT.out HM.out hl' (keep_cell hW (by simp)) (fun c hc => keep_cell hW (keep_cell hal (hcell1 c hc)))))
    rw [show pad l = .agg #[.int .i64 (l.getD 0 0), .int .i64 (l.getD 1 0), .int .i64 (l.getD 2 0), .int .i64 (l.getD 3 0)] from rfl] at NS
    have HB3 := Lib.hid hb3
    have p0 := keep_cell hal (hcell0 0 (by omega))
    have p1 := keep_cell hal (hcell0 1 (by omega))
    have p2 := keep_cell hal (hcell0 2 (by omega))
    have p3 := keep_cell hal (hcell0 3 (by omega))
    clear hov hrow hcell0 hcell1 hb1 hb2 hal hb3 A
    go_wp2_with fail
    refine NS.out.mono ?_
    rintro e w2 ⟨Bs, M, lv, mm, k, q, b, rfl, _, h1, h2, hlev, hmp, hm, hfo, hb4⟩
    have HB4 := Lib.hid (HB3.out.trans (hb4.mono HB3.out.size))
    cases b with
    | false =>
      have HW := Lib.hid hfo.none
      have HE : Hid (btE t l m = 5) := Lib.hid (by rw [HDE.out, HW.out]; rfl)
      have HLL : Hid (btL t l m = []) := Lib.hid (by rw [HDL.out, HW.out]; rfl)
      clear h1 h2 hlev hmp hm hfo hb4 NS p0 p1 p2 p3
      go_wp2
      refine bodyPost_ret (v := .tuple #[.slice none 0 0, .int .i64 5]) (by simp [results, Try.results34, go_sem]) rfl ⟨_, by rw [HE.out], by rw [HLL.out]; exact deeds_nil _, HB4.out⟩
    | true =>
      obtain ⟨ds, hds, hC⟩ := NewS.deeds HT.out HL.out h1 h2 hlev hmp hm hfo
      have HE : Hid (btE t l m = 0) := Lib.hid (by rw [HDE.out, hds]; rfl)
      have HLL : Hid (btL t l m = ds) := Lib.hid (by rw [HDL.out, hds]; rfl)
      have C := Lib.hid hC
      clear h1 h2 hlev hmp hm hfo hb4 NS hds hC p0 p1 p2 p3
      go_wp2_with fail
      refine C.out.mono ?_
      rintro e w3 ⟨ov, rfl, hov, hb5⟩
      have O := Lib.hid hov
      clear hov C
      go_wp2
      refine bodyPost_ret (v := .tuple #[ov, .int .i64 0]) (by simp [results, Try.results34, go_sem]) rfl ⟨_, by rw [HE.out], by rw [HLL.out]; exact O.out, HB4.out.trans (hb5.mono HB4.out.size)⟩
  · have HE := Lib.hid (show btE t l m = askE t [l, m] by unfold btE; rw [if_neg hask])
    have HLL := Lib.hid (show btL t l m = [] by unfold btL; rw [if_neg hask])
    generalize askE t [l, m] = ae at *
    have hb : (ae != 0) = true := bne_iff_ne.2 hask
    go_enter Try.func34, Try.ntmps34
    go_wp2_with fail
    refine A.out.mono ?_
    rintro e w1 ⟨ov, rfl, _, hno, hb1⟩
    obtain rfl := hno hask
    have hb2 := Lib.hid (HB1.out.trans (hb1.mono (by simp)))
    clear hb1
    go_wp2
    refine bodyPost_ret (v := .tuple #[.slice none 0 0, .int .i64 ae]) (by simp [results, Try.results34, go_sem]) rfl ⟨_, by rw [HE.out], by rw [HLL.out]; exact deeds_nil _, by first | exact hb2.out | exact hb2.out.alloc hb2.out.size _⟩

set_option maxRecDepth 100000 in
set_option maxHeartbeats 2000000 in
theorem rBetween_any (v y z : Value) (t l m : List Int) (w : World) (hv : IntsAt w v t) (hy : IntsAt w y l) (hz : IntsAt w z m) :
    Calls Try.prog 35 #[v, y, z] w (GivesDE (btL t l m) (btE t l m) w) := by
  have A1 := Lib.hid (rAsked_any v y t l w hv hy)
  have A2 := Lib.hid (fun W (hb : Below w.heap.size w W) => rAsked_any v z t m W (hv.below hb) (hz.below hb))
  have AB := Lib.hid (askE_both t l m)
  have V := Lib.hid hv
  have Y := Lib.hid hy
  have Z := Lib.hid hz
  obtain ⟨ya, ycap, rfl, _⟩ := hy
  obtain ⟨za, zcap, rfl, _⟩ := hz
  obtain ⟨va, vcap, rfl, _⟩ := hv
  by_cases h1 : askE t [l] = 0
  · by_cases h2 : askE t [m] = 0
    · have hask : askE t [l, m] = 0 := by rw [AB.out, if_pos h1, h2]
      have AZ := askE_pair hask
      have HT := Lib.hid AZ.1
      have HL := Lib.hid AZ.2.1
      have HM := Lib.hid AZ.2.2
      have FG := Lib.hid (full_good AZ.1 AZ.2.1)
      have HDE := Lib.hid (show btE t l m = if (way t l (eqG m)).isSome then 0 else 5 by unfold btE; rw [if_pos hask])
      have HDL := Lib.hid (show btL t l m = (way t l (eqG m)).getD [] by unfold btL; rw [if_pos hask])
      have hel : (full t l).length ≤ 28561 := by have h3 := good_len (full_good AZ.1 AZ.2.1); have h4 := sizeR_le AZ.1; omega
      have HWY : Hid (way t l (eqG m) = (hit (full t l) (eqG m)).map (fun e => e.2.1)) := Lib.hid rfl
      rw [h1] at A1
      rw [h2] at A2
      clear h1 h2 hask AZ AB
      go_enter Try.func35, Try.ntmps35
      go_wp2_with fail
      refine A1.out.mono ?_
      rintro e w1 ⟨rfl, hb1⟩
      have HB1 := Lib.hid hb1
      clear hb1
      go_wp2_with fail
      refine (A2.out _ HB1.out).mono ?_
      rintro e w2 ⟨rfl, hb2⟩
      have HB2 := Lib.hid (HB1.out.trans (hb2.mono HB1.out.size))
      clear hb2
      have GR := Lib.hid (rGrow_any _ _ t l w2 (V.out.below HB2.out) (Y.out.below HB2.out) HT.out HL.out)
      go_wp2_with fail
      refine GR.out.mono ?_
      rintro e w3 ⟨Bx, go, gc, gf, gb, rfl, hT3, hb3⟩
      have HB3 := Lib.hid (HB2.out.trans (hb3.mono HB2.out.size))
      have HT3 := Lib.hid hT3
      have RN := Lib.hid (rNumber_any _ _ t m w3 (V.out.below HB3.out) (Z.out.below HB3.out) HT.out HM.out)
      clear hb3 hT3 GR A1 A2
      obtain ⟨nm, hnm⟩ : ∃ n, n = numR t m := ⟨_, rfl⟩
      rw [← hnm] at RN
      have HNM := Lib.hid hnm
      clear hnm
      go_wp2_with fail
      refine RN.out.mono ?_
      rintro e w4 ⟨rfl, hb4⟩
      have HB4 := Lib.hid (HB3.out.trans (hb4.mono HB3.out.size))
      have HT4 := Lib.hid (HT3.out.below hb4)
      clear hb4 RN
      go_wp2
      go_loopw [11] (fun o wr => ∃ k : Nat, k ≤ (full t l).length ∧ o = .int .i64 k ∧ Hid (∀ j, j < k → eqG m ((full t l).getD j noE).1 = false) ∧ Below w4.heap.size w4 wr) (fun o _ => (full t l).length - (intOf o).toNat)
      case atStart => exact ⟨0, Nat.zero_le _, rfl, Lib.hid (fun j hj => by omega), Below.refl _ _⟩
      case round =>
        obtain ⟨k, hk, rfl, NH, hbel⟩ := hrel
        have hTr := HT4.out.below hbel
        have b0 := hTr.cells.1
        rw [ordL_len] at b0
        by_cases hlt : k < (full t l).length
        · have oi := hTr.ord (i := k) (by rw [ordL_len]; exact hlt)
          rw [ordL_at hlt] at oi
          have hxm := getD_mem hlt noE
          have hxl := FG.out.lev _ hxm
          have hlt' : (k : Int) < ((full t l).length : Int) := by omega
          have YS := Lib.hid (fun (h : ((full t l).getD k noE).1 = m) => show hit (full t l) (eqG m) = some ((full t l).getD k noE) by
            unfold hit
            rw [find_at (fun e : Ent => eqG m e.1) (full t l) k noE hlt NH.out (by unfold eqG; exact decide_eq_true h)])
          have NS := Lib.hid (fun (h : ((full t l).getD k noE).1 ≠ m) => show ∀ j, j < k + 1 → eqG m ((full t l).getD j noE).1 = false from fun j hj => by
            rcases Nat.lt_succ_iff_lt_or_eq.1 hj with h' | rfl
            · exact NH.out j h'
            · unfold eqG; exact decide_eq_false h)
          have HTR := Lib.hid hTr
          generalize (full t l).getD k noE = x at *
          by_cases hx : x.1 = m
          · have HH := Lib.hid (YS.out hx)
            have HE := Lib.hid (show btE t l m = 0 by rw [HDE.out, HWY.out, HH.out]; rfl)
            have HLL := Lib.hid (show btL t l m = x.2.1 by rw [HDL.out, HWY.out, HH.out]; rfl)
            have WY := Lib.hid (rWay_any HT.out FG.out hxm wr HTR.out)
            rw [hx, ← HNM.out] at WY oi
            clear YS NS hx hxm hxl hTr
            go_wp2_with fail
            refine WY.out.mono ?_
            rintro e w5 ⟨ov, rfl, hov, hb5⟩
            have HO := Lib.hid hov
            have HB5 := Lib.hid (HB4.out.trans ((hbel.trans (hb5.mono hbel.size)).mono HB4.out.size))
            obtain ⟨oa, oc, rfl, _⟩ := hov
            clear hb5
            go_wp2
            refine bodyPost_ret (v := .tuple #[.slice oa x.2.1.length oc, .int .i64 0]) (by simp [results, Try.results35, go_sem]) rfl ⟨_, by rw [HE.out], by rw [HLL.out]; exact HO.out, HB5.out⟩
          · have R := Lib.hid (NS.out hx)
            have hne : (((numR t x.1 : Nat) : Int) == (nm : Int)) = false := beq_eq_false_iff_ne.2 (fun h => hx (numR_inj hxl HM.out (by rw [← HNM.out]; omega)))
            generalize numR t x.1 = nx at *
            clear YS NS hx hxm hxl hTr
            go_wp2
            go_roundw
            case rel => exact ⟨k + 1, by omega, by go_num, R, hbel⟩
            case measure => simp [intOf]; omega
        · have HH := Lib.hid (show hit (full t l) (eqG m) = none by
            unfold hit
            exact find_no (fun e : Ent => eqG m e.1) (full t l) noE (fun j hj => NH.out j (by omega)))
          have HE := Lib.hid (show btE t l m = 5 by rw [HDE.out, HWY.out, HH.out]; rfl)
          have HLL := Lib.hid (show btL t l m = [] by rw [HDL.out, HWY.out, HH.out]; rfl)
          obtain rfl : k = (full t l).length := by omega
          have HBX := Lib.hid (HB4.out.trans (hbel.mono HB4.out.size))
          clear hTr
          go_wp2
          refine bodyPost_ret (v := .tuple #[.slice none 0 0, .int .i64 5]) (by simp [results, Try.results35, go_sem]) rfl ⟨_, by rw [HE.out], by rw [HLL.out]; exact deeds_nil _, HBX.out⟩
    · have hask : askE t [l, m] = askE t [m] := by rw [AB.out, if_pos h1]
      have HE := Lib.hid (show btE t l m = askE t [m] by unfold btE; rw [hask, if_neg h2])
      have HLL := Lib.hid (show btL t l m = [] by unfold btL; rw [hask, if_neg h2])
      rw [h1] at A1
      clear hask AB h1
      generalize askE t [m] = ae at *
      have hb : (ae != 0) = true := bne_iff_ne.2 h2
      have hb' : (ae == 0) = false := beq_eq_false_iff_ne.2 h2
      clear h2
      go_enter Try.func35, Try.ntmps35
      go_wp2_with fail
      refine A1.out.mono ?_
      rintro e w1 ⟨rfl, hb1⟩
      have HB1 := Lib.hid hb1
      clear hb1
      go_wp2_with fail
      refine (A2.out _ HB1.out).mono ?_
      rintro e w2 ⟨rfl, hb2⟩
      have HB2 := Lib.hid (HB1.out.trans (hb2.mono HB1.out.size))
      clear hb2
      go_wp2
      refine bodyPost_ret (v := .tuple #[.slice none 0 0, .int .i64 ae]) (by simp [results, Try.results35, go_sem]) rfl ⟨_, by rw [HE.out], by rw [HLL.out]; exact deeds_nil _, HB2.out⟩
  · have hask : askE t [l, m] = askE t [l] := by rw [AB.out, if_neg h1]
    have HE := Lib.hid (show btE t l m = askE t [l] by unfold btE; rw [hask, if_neg h1])
    have HLL := Lib.hid (show btL t l m = [] by unfold btL; rw [hask, if_neg h1])
    clear hask AB
    generalize askE t [l] = ae at *
    have hb : (ae != 0) = true := bne_iff_ne.2 h1
    have hb' : (ae == 0) = false := beq_eq_false_iff_ne.2 h1
    clear h1
    go_enter Try.func35, Try.ntmps35
    go_wp2_with fail
    refine A1.out.mono ?_
    rintro e w1 ⟨rfl, hb1⟩
    have HB1 := Lib.hid hb1
    clear hb1
    go_wp2
    refine bodyPost_ret (v := .tuple #[.slice none 0 0, .int .i64 ae]) (by simp [results, Try.results35, go_sem]) rfl ⟨_, by rw [HE.out], by rw [HLL.out]; exact deeds_nil _, HB1.out⟩

end Go.Proofs.Ytikcpfpeoofppaa
