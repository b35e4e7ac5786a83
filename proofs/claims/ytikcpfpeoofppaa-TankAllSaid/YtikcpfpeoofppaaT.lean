/- Contracts: After and Does of the reference. -/
import Derived.Test.YtikcpfpeoofppaaS
namespace Go.Proofs.Ytikcpfpeoofppaa
open Go.RowKit

set_option maxRecDepth 100000 in
set_option maxHeartbeats 2000000 in
theorem rAfter_any (v y x : Value) (t l : List Int) (ds : List Deed) (w : World) (hv : IntsAt w v t) (hy : IntsAt w y l) (hx : DeedsAt w x ds) :
    Calls Try.prog 42 #[v, y, x] w (GivesA t l ds w) := by
  have A := Lib.hid (rAsked_any v y t l w hv hy)
  have V := Lib.hid hv
  have Y := Lib.hid hy
  have X := Lib.hid hx
  by_cases hask : askE t [l] = 0
  · have AZ := askE_zero hask
    have HT := Lib.hid AZ.1
    have HL := Lib.hid AZ.2
    have REx := Lib.hid (show runE t l ds = if areD t.length ds then 0 else 2 by unfold runE; rw [if_pos hask])
    have D := Lib.hid (fun w1 hb => rAreDeeds_any v x t ds w1 (hv.below hb) AZ.1.hi (hx.below hb))
    rw [hask] at A
    clear hask
    cases hD : areD t.length ds with
    | false =>
      have RE := Lib.hid (show runE t l ds = 2 by rw [REx.out, hD]; rfl)
      have RV := Lib.hid (show runV t l ds = [] by unfold runV; rw [RE.out]; rfl)
      rw [hD] at D
      clear hD REx AZ
      obtain ⟨_, _, rfl, _⟩ := hv
      obtain ⟨_, _, rfl, _⟩ := hy
      obtain ⟨_, _, rfl, _⟩ := hx
      go_enter Try.func42, Try.ntmps42
      go_wp2_with fail
      refine A.out.mono ?_
      rintro e w1 ⟨rfl, hb1⟩
      go_wp2_with fail
      refine (D.out w1 hb1).mono ?_
      rintro e w2 ⟨rfl, hb2⟩
      have hB := hb1.trans (hb2.mono hb1.size)
      go_wp2
      refine bodyPost_ret (v := .tuple #[.slice none 0 0, .int .i64 2]) (by simp [results, Try.results42, go_sem]) rfl ⟨_, by rw [RE.out], by rw [RV.out]; exact ints_nil _, hB⟩
    | true =>
      have RE := Lib.hid (show runE t l ds = 0 by rw [REx.out, hD]; rfl)
      have RV := Lib.hid (show runV t l ds = lvK t l ds ds.length by unfold runV; rw [RE.out, if_pos rfl, lvK_full])
      have HD := Lib.hid hD
      rw [hD] at D
      have hl2 := HT.out.lo
      have hll : 0 < l.length := by rw [AZ.2.1]; omega
      have hl4 : l.length ≤ 4 := by rw [AZ.2.1]; exact AZ.1.hi
      clear hD REx AZ
      obtain ⟨a0, c0, rfl, _⟩ := hv
      obtain ⟨a1, c1, rfl, _⟩ := hy
      obtain ⟨a2, c2, rfl, _, hq⟩ := hx
      go_enter Try.func42, Try.ntmps42
      go_wp2_with fail
      refine A.out.mono ?_
      rintro e w1 ⟨rfl, hb1⟩
      go_wp2_with fail
      refine (D.out w1 hb1).mono ?_
      rintro e w2 ⟨rfl, hb2⟩
      have hB := hb1.trans (hb2.mono hb1.size)
      clear hb1 hb2 A D
      obtain ⟨lb, lo, lc, he, hic⟩ := ints_cell (Y.out.below hB) hll
      simp only [Value.slice.injEq] at he
      obtain ⟨rfl, -, rfl⟩ := he
      have NW := Lib.hid (ints_news hic (.cells #[] 3))
      obtain ⟨j0, hj0, hy0, hy1, hy2⟩ := info_parts Try.infoInt
      have hown0 := World.ownsRow_made (base := w2.heap.size) (e := 3) (size := 1) w2 #[] 0 (Nat.le_refl _) (by decide) rfl
      clear hic
      go_wp2_with (at_builtin; go_loud (refine wpList_append_own _ rfl (.tmp 25) (.tmp 26) 29 rfl w2.heap.size 3 j0 (.int .i64 0) 1 8 Try.underlying29 hj0 hy0 hy1 hy2 rfl (by decide) _ _ _ rfl hown0 ⟨lb, lo, none⟩ l.length c1 (l.map (Value.int .i64)) rfl (by simp) NW.out (int_vals_one l) (by unfold maxLen; omega) (by omega) (by simp) ?_))
      intro ov w3 hov0 hgr0 _
      have hb3 := clone_below rfl hgr0
      obtain ⟨g, cap, rfl, O, hg⟩ := own_form (by simpa using hov0) hll
      have hO : IntsAt w3 (.slice (some ⟨g, 0, none⟩) l.length cap) (lvK t l ds 0) := O.ints (by omega)
      have hB3 : Below w.heap.size w w3 := hB.trans (hb3.mono hB.size)
      clear hov0 hgr0 hown0 NW O
      go_wp2
      go_loopw [9, 10] (fun s i wr => ∃ k : Nat, k ≤ ds.length ∧ i = .int .i64 k ∧ IntsAt wr s (lvK t l ds k) ∧ Below w.heap.size w wr) (fun _ i _ => ds.length - (intOf i).toNat)
      case atStart => exact ⟨0, Nat.zero_le _, rfl, hO, hB3⟩
      case round =>
        obtain ⟨k, hk, rfl, hI, hbel⟩ := hrel
        by_cases hlt : k < ds.length
        · obtain ⟨b, off, rfl, hc⟩ := hq (by omega)
          obtain ⟨x1, x2, x3⟩ := hc k hlt
          have z1 := keep_cell hbel x1
          have z2 := keep_cell hbel x2
          have z3 := keep_cell hbel x3
          have C := Lib.hid (rDone_any _ _ t (lvK t l ds k) (ds.getD k noDeed) wr (V.out.below hbel) HT.out hI (lvK_lev HT.out HL.out HD.out k hk) (isD_at HD.out hlt))
          rw [← lvK_succ t l ds hlt] at C
          clear hc hq x1 x2 x3 hI
          generalize ds.getD k noDeed = d at *
          obtain ⟨d1, d2, d3⟩ := d
          simp only at z1 z2 z3
          simp only [deedV] at C
          go_wp2_with fail
          refine C.out.mono ?_
          rintro e w4 ⟨ov, rfl, hov, hb4, _⟩
          have O4 := Lib.hid hov
          clear hov C
          go_wp2
          go_roundw
          case rel => exact ⟨k + 1, by omega, by go_num, O4.out, hbel.trans (hb4.mono hbel.size)⟩
          case measure => simp [intOf]; omega
        · obtain rfl : k = ds.length := by omega
          have O4 := Lib.hid hI
          clear hI
          go_wp2
          refine bodyPost_ret (v := .tuple #[u9, .int .i64 0]) (by simp [results, Try.results42, go_sem]) rfl ⟨_, by rw [RE.out], by rw [RV.out]; exact O4.out, hbel⟩
  · have RE := Lib.hid (show runE t l ds = askE t [l] by unfold runE; rw [if_neg hask])
    have RV := Lib.hid (show runV t l ds = [] by unfold runV; rw [RE.out, if_neg hask])
    generalize askE t [l] = ae at *
    have hb : (ae == 0) = false := beq_eq_false_iff_ne.2 hask
    have hb2 : (ae != 0) = true := bne_iff_ne.2 hask
    obtain ⟨_, _, rfl, _⟩ := hv
    obtain ⟨_, _, rfl, _⟩ := hy
    obtain ⟨_, _, rfl, _⟩ := hx
    go_enter Try.func42, Try.ntmps42
    go_wp2_with fail
    refine A.out.mono ?_
    rintro e w1 ⟨rfl, hb1⟩
    go_wp2
    refine bodyPost_ret (v := .tuple #[.slice none 0 0, .int .i64 ae]) (by simp [results, Try.results42, go_sem]) rfl ⟨_, by rw [RE.out], by rw [RV.out]; exact ints_nil _, hb1⟩

set_option maxHeartbeats 400000 in
theorem rDoes_any (v y : Value) (t l : List Int) (d : Deed) (w : World) (hv : IntsAt w v t) (hy : IntsAt w y l) :
    Calls Try.prog 37 #[v, y, deedV d] w (GivesA t l [d] w) := by
  obtain ⟨d1, d2, d3⟩ := d
  have hB1 := (Below.refl w.heap.size w).alloc (Nat.le_refl _) (.cells #[.int .i64 d1, .int .i64 d2, .int .i64 d3] 43)
  have hB2 := hB1.alloc (by simp) (.cells #[.int .i64 d1, .int .i64 d2, .int .i64 d3] 43)
  have C := Lib.hid (rAfter_any v y _ t l [(d1, d2, d3)] _ (hv.below hB2) (hy.below hB2) (deeds_one (d1, d2, d3) (World.size_alloc _ _)))
  obtain ⟨_, _, rfl, _⟩ := hv
  obtain ⟨_, _, rfl, _⟩ := hy
  unfold deedV
  go_enter Try.func37, Try.ntmps37
  go_wp2_with fail
  refine C.out.mono ?_
  rintro e w1 ⟨ov, rfl, hov, hb1⟩
  have O := Lib.hid hov
  clear hov C
  generalize hre : runE t l [(d1, d2, d3)] = re at *
  go_wp2
  refine bodyPost_ret (v := .tuple #[ov, .int .i64 re]) (by simp [results, Try.results37, go_sem]) rfl ⟨ov, by rw [hre], O.out, hB2.trans (hb1.mono hB2.size)⟩

end Go.Proofs.Ytikcpfpeoofppaa
