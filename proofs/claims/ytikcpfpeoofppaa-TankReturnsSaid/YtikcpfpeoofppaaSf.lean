/- Contracts: Back (the program). -/
import Derived.Test.YtikcpfpeoofppaaSe
import Derived.Test.YtikcpfpeoofppaaO2
namespace Go.Proofs.Ytikcpfpeoofppaa
open Go.RowKit Go.Shelf

def eqG (l l' : List Int) : Bool := decide (l' = l)

set_option maxRecDepth 100000 in
set_option maxHeartbeats 2000000 in
theorem backGoal_any (Bx g cap : Nat) (t l l' : List Int) (w : World) (ht : Tvl t) (hl : Lev t l) (hl' : Lev t l') (hx : w.cell? ⟨Bx, 0, none⟩ = some (.slice (some ⟨g, 0, none⟩) 1 cap)) (hc : ∀ c, c < 4 → w.cell? ⟨g, c, none⟩ = some (.int .i64 (l.getD c 0))) :
    Calls Try.prog 68 #[pad l', .pointer (some ⟨Bx, 0, none⟩)] w fun e w' => e = .returned (.bool (eqG l l')) ∧ Below w.heap.size w w' := by
  have hal : Below w.heap.size w (w.alloc (.cells #[.int .i64 (l'.getD 0 0), .int .i64 (l'.getD 1 0), .int .i64 (l'.getD 2 0), .int .i64 (l'.getD 3 0)] 66)) := (Below.refl _ w).alloc (Nat.le_refl _) _
  have cx := keep_cell hal hx
  have c0 := keep_cell hal (hc 0 (by omega))
  have c1 := keep_cell hal (hc 1 (by omega))
  have c2 := keep_cell hal (hc 2 (by omega))
  have c3 := keep_cell hal (hc 3 (by omega))
  have HA := Lib.hid hal
  have hq : ∀ W, (Op.equalIn 10000 66 (.agg #[.int .i64 (l'.getD 0 0), .int .i64 (l'.getD 1 0), .int .i64 (l'.getD 2 0), .int .i64 (l'.getD 3 0)]) (.agg #[.int .i64 (l.getD 0 0), .int .i64 (l.getD 1 0), .int .i64 (l.getD 2 0), .int .i64 (l.getD 3 0)])).run Try.prog W = .ok (eqG l l') W := fun W => eq_run ht hl' hl W
  unfold pad levV
  generalize eqG l l' = bb at *
  clear hal hx hc hl hl'
  generalize l'.getD 0 0 = x0 at *
  generalize l'.getD 1 0 = x1 at *
  generalize l'.getD 2 0 = x2 at *
  generalize l'.getD 3 0 = x3 at *
  generalize l.getD 0 0 = y0 at *
  generalize l.getD 1 0 = y1 at *
  generalize l.getD 2 0 = y2 at *
  generalize l.getD 3 0 = y3 at *
  obtain ⟨W0, hW0⟩ : ∃ W0, W0 = w.alloc (.cells #[.int .i64 x0, .int .i64 x1, .int .i64 x2, .int .i64 x3] 66) := ⟨_, rfl⟩
  have b0 : W0.cell? ⟨w.heap.size, 0, none⟩ = some (.int .i64 x0) := by rw [hW0]; simp
  have b1 : W0.cell? ⟨w.heap.size, 1, none⟩ = some (.int .i64 x1) := by rw [hW0]; simp
  have b2 : W0.cell? ⟨w.heap.size, 2, none⟩ = some (.int .i64 x2) := by rw [hW0]; simp
  have b3 : W0.cell? ⟨w.heap.size, 3, none⟩ = some (.int .i64 x3) := by rw [hW0]; simp
  rw [← hW0] at cx c0 c1 c2 c3 HA
  have r0 : ∀ W, KB W0 W → W.cell? ⟨w.heap.size, 0, none⟩ = some (.int .i64 x0) := fun W h => kb_cell h b0
  have r1 : ∀ W, KB W0 W → W.cell? ⟨w.heap.size, 1, none⟩ = some (.int .i64 x1) := fun W h => kb_cell h b1
  have r2 : ∀ W, KB W0 W → W.cell? ⟨w.heap.size, 2, none⟩ = some (.int .i64 x2) := fun W h => kb_cell h b2
  have r3 : ∀ W, KB W0 W → W.cell? ⟨w.heap.size, 3, none⟩ = some (.int .i64 x3) := fun W h => kb_cell h b3
  have r4 : ∀ W, KB W0 W → W.cell? ⟨Bx, 0, none⟩ = some (.slice (some ⟨g, 0, none⟩) 1 cap) := fun W h => kb_cell h cx
  have r5 : ∀ W, KB W0 W → W.cell? ⟨g, 0, none⟩ = some (.int .i64 y0) := fun W h => kb_cell h c0
  have r6 : ∀ W, KB W0 W → W.cell? ⟨g, 1, none⟩ = some (.int .i64 y1) := fun W h => kb_cell h c1
  have r7 : ∀ W, KB W0 W → W.cell? ⟨g, 2, none⟩ = some (.int .i64 y2) := fun W h => kb_cell h c2
  have r8 : ∀ W, KB W0 W → W.cell? ⟨g, 3, none⟩ = some (.int .i64 y3) := fun W h => kb_cell h c3
  have HW0 := Lib.hid hW0
  clear cx c0 c1 c2 c3 b0 b1 b2 b3 hW0
  go_enter Try.func68, Try.ntmps68
  go_wp2
  rw [← HW0.out]
  go_region_held3 (fun W => KB W0 W) (exact Below.drew (Below.refl _ _)) (fail)
  all_goals go_wp2
  all_goals go_ret
  all_goals exact ⟨rfl, HA.out.drew⟩

def backV (t l : List Int) : Bool := if askE t [l] = 0 then (way t (zerosL t) (eqG l)).isSome else false

set_option maxRecDepth 100000 in
set_option maxHeartbeats 2000000 in
theorem tBack_any (v y : Value) (t l : List Int) (w : World) (hv : IntsAt w v t) (hy : IntsAt w y l) :
    Calls Try.prog 30 #[v, y] w fun e w' => e = .returned (.tuple #[.bool (backV t l), .int .i64 (askE t [l])]) ∧ Below w.heap.size w w' := by
  have hB1 := (Below.refl w.heap.size w).alloc (Nat.le_refl _) (.cells #[y] 29)
  have A := Lib.hid (asked2_any v _ t [l] _ (hv.below hB1) (ints_one (t := 29) hy) (by simp))
  have HB1 := Lib.hid hB1
  have V := Lib.hid hv
  obtain ⟨ya, ycap, rfl, _⟩ := hy
  obtain ⟨va, vcap, rfl, _⟩ := hv
  by_cases hask : askE t [l] = 0
  · have AZ := askE_zero hask
    have HT := Lib.hid AZ.1
    have HL := Lib.hid AZ.2
    have HBV := Lib.hid (show backV t l = (way t (zerosL t) (eqG l)).isSome by unfold backV; rw [if_pos hask])
    rw [hask] at A ⊢
    have HP := Lib.hid (zeros_pad t)
    clear AZ hask hB1
    go_enter Try.func30, Try.ntmps30
    go_wp2_with fail
    refine A.out.mono ?_
    rintro e w1 ⟨ov, rfl, hov, _, hb1⟩
    have hrow := hov (by first | trivial | rfl)
    obtain ⟨g, cap, rfl⟩ : ∃ g cap, ov = .slice (some ⟨g, 0, none⟩) 1 cap := by
      rcases hrow.2 with ⟨_, h⟩ | ⟨g, cap, cur, h, _⟩
      · simp at h
      · exact ⟨g, cap, h⟩
    have hcell : ∀ c, c < 4 → w1.cell? ⟨g, c, none⟩ = some (.int .i64 (l.getD c 0)) := fun c hc => by
      have h1 := hrow.cellAt c (by simp; omega)
      rw [h1]
      have := flatP_at [l] 0 c (by simp) hc
      simpa using this
    have hb2 : Below w.heap.size w w1 := HB1.out.trans (hb1.mono (by simp))
    have hal : Below w1.heap.size w1 (w1.alloc (.cells #[.slice (some ⟨g, 0, none⟩) 1 cap] 82)) := (Below.refl _ w1).alloc (Nat.le_refl _) _
    have hb3 : Below w.heap.size w (w1.alloc (.cells #[.slice (some ⟨g, 0, none⟩) 1 cap] 82)) := hb2.trans (hal.mono hb2.size)
    have NS := Lib.hid (newSearch_any (eqG l) 68 #[.pointer (some ⟨w1.heap.size, 0, none⟩)] (enters_of Try.func68 (by kernel_rfl) rfl) _ t (zerosL t) (w1.alloc (.cells #[.slice (some ⟨g, 0, none⟩) 1 cap] 82)) (V.out.below hb3) HT.out (zeros_lev HT.out)
      (fun W l' hW hl' => backGoal_any w1.heap.size g cap t l l' W HT.out HL.out hl' (keep_cell hW (by simp)) (fun c hc => keep_cell hW (keep_cell hal (hcell c hc)))))
    rw [HP.out] at NS
    have HB3 := Lib.hid hb3
    clear hov hrow hcell hb1 hb2 hal hb3 A
    go_wp2_with fail
    refine NS.out.mono ?_
    rintro e w2 ⟨Bs, M, lv, m, k, q, b, rfl, _, _, _, _, _, _, hfo, hb4⟩
    have HB4 := Lib.hid (HB3.out.trans (hb4.mono HB3.out.size))
    have HV : Hid (backV t l = b) := Lib.hid (by
      rw [HBV.out]
      cases b with
      | false => rw [hfo.none]; rfl
      | true =>
        unfold way
        rw [hfo.hit]
        rfl)
    clear hfo hb4 NS
    go_wp2
    go_ret2
    exact ⟨by rw [HV.out]; rfl, HB4.out⟩
  · have HBV := Lib.hid (show backV t l = false by unfold backV; rw [if_neg hask])
    generalize askE t [l] = ae at *
    have hb : (ae != 0) = true := bne_iff_ne.2 hask
    go_enter Try.func30, Try.ntmps30
    go_wp2_with fail
    refine A.out.mono ?_
    rintro e w1 ⟨ov, rfl, _, hno, hb1⟩
    obtain rfl := hno hask
    have hb2 := Lib.hid (HB1.out.trans (hb1.mono (by simp)))
    clear hb1
    go_wp2
    refine bodyPost_ret (v := .tuple #[.bool false, .int .i64 ae]) (by simp [results, Try.results30, go_sem]) rfl ⟨by rw [HBV.out], by first | exact hb2.out | exact hb2.out.alloc hb2.out.size _⟩

end Go.Proofs.Ytikcpfpeoofppaa
