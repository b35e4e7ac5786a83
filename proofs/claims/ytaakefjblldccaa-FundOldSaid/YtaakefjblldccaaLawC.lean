/- The greatest equal award and loss, of both; the walk of the law FundLevels. -/
import Derived.Test.YtaakefjblldccaaU
import Derived.Test.YtaakefjblldccaaLawA
namespace Go.Proofs.Ytaakefjblldccaa
open Go.RowKit

/-- The greatest equal award. -/
def levR (c : List Int) (n : Int) : Rat2 := if askE c n = 0 then mxTo stM (eqW c n) (eqW c n).length else (0, 0)
def lossR (c : List Int) (n : Int) : Rat2 := if askE c n = 0 then mxTo stM (eqW c (tot c - n)) (eqW c (tot c - n)).length else (0, 0)
def tupR (r : Rat2) (e : Int) : Value := .tuple #[.agg #[.int .i64 r.1, .int .i64 r.2], .int .i64 e]

theorem askE_miss {c : List Int} {n : Int} (h : askE c n = 0) : askE c (tot c - n) = 0 := by
  obtain ⟨hc, h1, h2⟩ := askE_ok2 h
  unfold askE
  rw [if_pos ((cvl_iff c).2 hc), if_pos ((betw_iff _ _ _).2 ⟨by omega, by omega⟩)]




set_option maxHeartbeats 2000000 in
theorem Level_any (v : Value) (c : List Int) (n : Int) (w : World) (hv : IntsAt w v c) :
    Calls Try.prog 35 #[v, .int .i64 n] w fun e w' => e = .returned (tupR (levR c n) (askE c n)) ∧ Below w.heap.size w w' := by
  have HV := Lib.hid hv
  by_cases h0 : askE c n = 0
  · obtain ⟨hc, h1, h2⟩ := askE_ok2 h0
    have A := Lib.hid h0
    have hal : Below w.heap.size w (w.alloc (.cells #[.int .i64 0, .int .i64 0] 23)) := (Below.refl _ w).alloc (Nat.le_refl _) _
    have E1 := Lib.hid (equal_any v c n _ (hv.below hal) hc h1 h2)
    have M1 := Lib.hid (eqW_bd hc h1 h2)
    have hl := eqW_length c n
    have hhi := hc.hi
    have hlo := hc.lo
    have R0 : levR c n = mxTo stM (eqW c n) (eqW c n).length := by unfold levR; rw [if_pos h0]
    generalize eqW c n = E at *
    generalize hr : mxTo stM E E.length = r at *
    have R := Lib.hid R0
    have G := Lib.hid hr
    clear hv hc h0 R0 hr hal
    go_enter Try.func35, Try.ntmps35
    go_wp2_with fail
    refine (checked_any _ _ _ _ (HV.out.below ((Below.refl _ _).alloc (Nat.le_refl _) _))).mono ?_
    rintro e w' ⟨rfl, rfl⟩
    rw [A.out]
    go_wp2_with fail
    refine E1.out.mono ?_
    rintro e w1 ⟨v1, rfl, ho, hb1⟩
    go_wp2_with fail
    refine (maxFunc_any _ _ _ (ho.at (by omega)) (by omega) (by omega) (mod_of M1.out (by omega) (by omega))).mono ?_
    rintro e w2 ⟨rfl, hb2'⟩
    have hb2 := below_trans hb1 hb2'
    rw [G.out]
    clear ho hb1 hb2'
    have hbr : Below (w.heap.size + 1) (w.alloc (.cells #[.int .i64 0, .int .i64 0] 23)) w2 := by
      have := hb2
      rwa [World.size_alloc] at this
    obtain ⟨⟨c0, c1⟩, f0, f1⟩ := res_cells hbr
    have hB := Lib.hid (res_below hbr (.int .i64 r.1) (.int .i64 r.2))
    clear hbr
    go_wp2
    exact bodyPost_ret (v := tupR r 0) (by unfold tupR; simp [results, Try.results35, go_sem, c0, c1]) rfl ⟨by first | rw [R.out, A.out] | rw [A.out], hB.out⟩
  · have R : Hid (levR c n = (0, 0)) := Lib.hid (by unfold levR; rw [if_neg h0])
    clear hv
    have hb : (askE c n != 0) = true := by rw [bne_iff_ne]; exact h0
    clear h0
    go_enter Try.func35, Try.ntmps35
    go_wp2_with fail
    refine (checked_any _ _ _ _ (HV.out.below ((Below.refl _ _).alloc (Nat.le_refl _) _))).mono ?_
    rintro e w' ⟨rfl, rfl⟩
    go_wp2
    rw [R.out]
    refine bodyPost_ret (v := tupR (0, 0) (askE c n)) (by unfold tupR; simp [results, Try.results35, go_sem]) rfl ⟨rfl, ?_⟩
    repeat (first | exact Below.refl _ _ | refine Below.setCell ?_ (by simp) _ | refine Below.alloc ?_ (by simp) _)

set_option maxHeartbeats 2000000 in
theorem rLevel_any (v : Value) (c : List Int) (n : Int) (w : World) (hv : IntsAt w v c) :
    Calls Try.prog 36 #[v, .int .i64 n] w fun e w' => e = .returned (tupR (levR c n) (askE c n)) ∧ Below w.heap.size w w' := by
  have HV := Lib.hid hv
  by_cases h0 : askE c n = 0
  · obtain ⟨hc, h1, h2⟩ := askE_ok2 h0
    have A := Lib.hid h0
    have hal : Below w.heap.size w (w.alloc (.cells #[.int .i64 0, .int .i64 0] 23)) := (Below.refl _ w).alloc (Nat.le_refl _) _
    have E1 := Lib.hid (requal_any v c n _ (hv.below hal) hc h1 h2)
    have M1 := Lib.hid (eqW_bd hc h1 h2)
    have hl := eqW_length c n
    have hhi := hc.hi
    have hlo := hc.lo
    have R0 : levR c n = mxTo stM (eqW c n) (eqW c n).length := by unfold levR; rw [if_pos h0]
    generalize eqW c n = E at *
    generalize hr : mxTo stM E E.length = r at *
    have R := Lib.hid R0
    have G := Lib.hid hr
    clear hv hc h0 R0 hr hal
    go_enter Try.func36, Try.ntmps36
    go_wp2_with fail
    refine (rasked_any _ _ _ _ (HV.out.below ((Below.refl _ _).alloc (Nat.le_refl _) _))).mono ?_
    rintro e w' ⟨rfl, rfl⟩
    rw [A.out]
    go_wp2_with fail
    refine E1.out.mono ?_
    rintro e w1 ⟨v1, rfl, ho, hb1⟩
    go_wp2_with fail
    refine (greatest_any _ _ _ (ho.at (by omega)) (by omega) (by omega) (mod_of M1.out (by omega) (by omega))).mono ?_
    rintro e w2 ⟨rfl, hb2'⟩
    have hb2 := below_trans hb1 hb2'
    rw [G.out]
    clear ho hb1 hb2'
    have hbr : Below (w.heap.size + 1) (w.alloc (.cells #[.int .i64 0, .int .i64 0] 23)) w2 := by
      have := hb2
      rwa [World.size_alloc] at this
    obtain ⟨⟨c0, c1⟩, f0, f1⟩ := res_cells hbr
    have hB := Lib.hid (res_below hbr (.int .i64 r.1) (.int .i64 r.2))
    clear hbr
    go_wp2
    exact bodyPost_ret (v := tupR r 0) (by unfold tupR; simp [results, Try.results36, go_sem, c0, c1]) rfl ⟨by first | rw [R.out, A.out] | rw [A.out], hB.out⟩
  · have R : Hid (levR c n = (0, 0)) := Lib.hid (by unfold levR; rw [if_neg h0])
    clear hv
    have hb : (askE c n != 0) = true := by rw [bne_iff_ne]; exact h0
    clear h0
    go_enter Try.func36, Try.ntmps36
    go_wp2_with fail
    refine (rasked_any _ _ _ _ (HV.out.below ((Below.refl _ _).alloc (Nat.le_refl _) _))).mono ?_
    rintro e w' ⟨rfl, rfl⟩
    go_wp2
    rw [R.out]
    refine bodyPost_ret (v := tupR (0, 0) (askE c n)) (by unfold tupR; simp [results, Try.results36, go_sem]) rfl ⟨rfl, ?_⟩
    repeat (first | exact Below.refl _ _ | refine Below.setCell ?_ (by simp) _ | refine Below.alloc ?_ (by simp) _)

set_option maxHeartbeats 2000000 in
theorem Loss_any (v : Value) (c : List Int) (n : Int) (w : World) (hv : IntsAt w v c) :
    Calls Try.prog 37 #[v, .int .i64 n] w fun e w' => e = .returned (tupR (lossR c n) (askE c n)) ∧ Below w.heap.size w w' := by
  have HV := Lib.hid hv
  by_cases h0 : askE c n = 0
  · obtain ⟨hc, h1, h2⟩ := askE_ok2 h0
    have A := Lib.hid h0
    have hal : Below w.heap.size w (w.alloc (.cells #[.int .i64 0, .int .i64 0] 23)) := (Below.refl _ w).alloc (Nat.le_refl _) _
    have S := Lib.hid (fun W q => sum_any v c W q hc)
    have L0 := Level_any v c (tot c - n) _ (hv.below hal)
    have R0 : lossR c n = levR c (tot c - n) := by unfold lossR levR; rw [if_pos h0, if_pos (askE_miss h0)]
    rw [askE_miss h0, ← R0] at L0
    have ht := hc.tot
    generalize hr : lossR c n = r at *
    have R := Lib.hid hr
    have L1 := Lib.hid L0
    clear hv hc h0 R0 hr hal L0
    generalize tot c = t at *
    go_enter Try.func37, Try.ntmps37
    go_wp2_with fail
    refine (checked_any _ _ _ _ (HV.out.below ((Below.refl _ _).alloc (Nat.le_refl _) _))).mono ?_
    rintro e w' ⟨rfl, rfl⟩
    rw [A.out]
    go_wp2_with fail
    refine (S.out _ (HV.out.below ((Below.refl _ _).alloc (Nat.le_refl _) _))).mono ?_
    rintro e w' ⟨rfl, rfl⟩
    go_wp2_with fail
    refine L1.out.mono ?_
    rintro e w2 ⟨rfl, hb2⟩
    unfold tupR
    have hbr : Below (w.heap.size + 1) (w.alloc (.cells #[.int .i64 0, .int .i64 0] 23)) w2 := by
      have := hb2
      rwa [World.size_alloc] at this
    obtain ⟨⟨c0, c1⟩, f0, f1⟩ := res_cells hbr
    have hB := Lib.hid (res_below hbr (.int .i64 r.1) (.int .i64 r.2))
    clear hbr
    go_wp2
    exact bodyPost_ret (v := tupR r 0) (by unfold tupR; simp [results, Try.results37, go_sem, c0, c1]) rfl ⟨by first | rw [R.out, A.out] | rw [A.out], hB.out⟩
  · have R : Hid (lossR c n = (0, 0)) := Lib.hid (by unfold lossR; rw [if_neg h0])
    clear hv
    have hb : (askE c n != 0) = true := by rw [bne_iff_ne]; exact h0
    clear h0
    go_enter Try.func37, Try.ntmps37
    go_wp2_with fail
    refine (checked_any _ _ _ _ (HV.out.below ((Below.refl _ _).alloc (Nat.le_refl _) _))).mono ?_
    rintro e w' ⟨rfl, rfl⟩
    go_wp2
    rw [R.out]
    refine bodyPost_ret (v := tupR (0, 0) (askE c n)) (by unfold tupR; simp [results, Try.results37, go_sem]) rfl ⟨rfl, ?_⟩
    repeat (first | exact Below.refl _ _ | refine Below.setCell ?_ (by simp) _ | refine Below.alloc ?_ (by simp) _)

set_option maxHeartbeats 2000000 in
theorem rLoss_any (v : Value) (c : List Int) (n : Int) (w : World) (hv : IntsAt w v c) :
    Calls Try.prog 38 #[v, .int .i64 n] w fun e w' => e = .returned (tupR (lossR c n) (askE c n)) ∧ Below w.heap.size w w' := by
  have HV := Lib.hid hv
  by_cases h0 : askE c n = 0
  · obtain ⟨hc, h1, h2⟩ := askE_ok2 h0
    have A := Lib.hid h0
    have hal : Below w.heap.size w (w.alloc (.cells #[.int .i64 0, .int .i64 0] 23)) := (Below.refl _ w).alloc (Nat.le_refl _) _
    have S := Lib.hid (fun W q => total_any v c W q hc)
    have ht := hc.tot
    have E1 := Lib.hid (requal_any v c (tot c - n) _ (hv.below hal) hc (by omega) (by omega))
    have M1 := Lib.hid (eqW_bd hc (e := tot c - n) (by omega) (by omega))
    have hl := eqW_length c (tot c - n)
    have hhi := hc.hi
    have hlo := hc.lo
    have R0 : lossR c n = mxTo stM (eqW c (tot c - n)) (eqW c (tot c - n)).length := by unfold lossR; rw [if_pos h0]
    generalize eqW c (tot c - n) = E at *
    generalize hr : mxTo stM E E.length = r at *
    have R := Lib.hid R0
    have G := Lib.hid hr
    clear hv hc h0 R0 hr hal
    generalize tot c = t at *
    go_enter Try.func38, Try.ntmps38
    go_wp2_with fail
    refine (rasked_any _ _ _ _ (HV.out.below ((Below.refl _ _).alloc (Nat.le_refl _) _))).mono ?_
    rintro e w' ⟨rfl, rfl⟩
    rw [A.out]
    go_wp2_with fail
    refine (S.out _ (HV.out.below ((Below.refl _ _).alloc (Nat.le_refl _) _))).mono ?_
    rintro e w' ⟨rfl, rfl⟩
    go_wp2_with fail
    refine E1.out.mono ?_
    rintro e w1 ⟨v1, rfl, ho, hb1⟩
    go_wp2_with fail
    refine (greatest_any _ _ _ (ho.at (by omega)) (by omega) (by omega) (mod_of M1.out (by omega) (by omega))).mono ?_
    rintro e w2 ⟨rfl, hb2'⟩
    have hb2 := below_trans hb1 hb2'
    rw [G.out]
    clear ho hb1 hb2'
    have hbr : Below (w.heap.size + 1) (w.alloc (.cells #[.int .i64 0, .int .i64 0] 23)) w2 := by
      have := hb2
      rwa [World.size_alloc] at this
    obtain ⟨⟨c0, c1⟩, f0, f1⟩ := res_cells hbr
    have hB := Lib.hid (res_below hbr (.int .i64 r.1) (.int .i64 r.2))
    clear hbr
    go_wp2
    exact bodyPost_ret (v := tupR r 0) (by unfold tupR; simp [results, Try.results38, go_sem, c0, c1]) rfl ⟨by first | rw [R.out, A.out] | rw [A.out], hB.out⟩
  · have R : Hid (lossR c n = (0, 0)) := Lib.hid (by unfold lossR; rw [if_neg h0])
    clear hv
    have hb : (askE c n != 0) = true := by rw [bne_iff_ne]; exact h0
    clear h0
    go_enter Try.func38, Try.ntmps38
    go_wp2_with fail
    refine (rasked_any _ _ _ _ (HV.out.below ((Below.refl _ _).alloc (Nat.le_refl _) _))).mono ?_
    rintro e w' ⟨rfl, rfl⟩
    go_wp2
    rw [R.out]
    refine bodyPost_ret (v := tupR (0, 0) (askE c n)) (by unfold tupR; simp [results, Try.results38, go_sem]) rfl ⟨rfl, ?_⟩
    repeat (first | exact Below.refl _ _ | refine Below.setCell ?_ (by simp) _ | refine Below.alloc ?_ (by simp) _)

/-- A box of a ratio. -/
structure BoxR (w : World) (b : Nat) (r : Rat2) : Prop where
  c0 : w.cell? ⟨b, 0, none⟩ = some (.int .i64 r.1)
  c1 : w.cell? ⟨b, 1, none⟩ = some (.int .i64 r.2)
theorem BoxR.below {w w' : World} {b : Nat} {r : Rat2} (h : BoxR w b r) (hb : Below w.heap.size w w') : BoxR w' b r := ⟨keep_cell hb h.c0, keep_cell hb h.c1⟩
theorem BoxR.new (w : World) (r : Rat2) (t : TypeId) : BoxR (w.alloc (.cells #[.int .i64 r.1, .int .i64 r.2] t)) w.heap.size r := ⟨by simp, by simp⟩
theorem below_alloc (w : World) (o : Obj) : Below w.heap.size w (w.alloc o) := (Below.refl _ _).alloc (Nat.le_refl _) _

set_option maxRecDepth 100000 in
set_option maxHeartbeats 2000000 in
theorem FundLevels_walk (v : Value) (c : List Int) (n : Int) (w : World) (hv : IntsAt w v c) :
    Calls Try.prog 7 #[v, .int .i64 n] w fun e w' => e = .returned (.bool true) ∧ Below w.heap.size w w' := by
  have HV := Lib.hid hv
  clear hv
  by_cases h1 : 40 < c.length
  · have L : Hid (decide (40 < c.length) = true) := Lib.hid (decide_eq_true h1)
    clear h1
    go_enter Try.func7, Try.ntmps7
    go_wp2_with fail
    refine (long_any _ _ _ HV.out).mono ?_
    rintro e w' ⟨rfl, rfl⟩
    rw [L.out]
    go_wp2_with fail
    refine (sane_any _).mono ?_
    rintro e w1 ⟨rfl, hb1⟩
    go_wp2
    go_ret
    exact ⟨rfl, hb1⟩
  · have L : Hid (decide (40 < c.length) = false) := Lib.hid (decide_eq_false h1)
    clear h1
    have C1 := Lib.hid (fun W q => Level_any v c n W q)
    have C2 := Lib.hid (fun W q => rLevel_any v c n W q)
    have C3 := Lib.hid (fun W q => Loss_any v c n W q)
    have C4 := Lib.hid (fun W q => rLoss_any v c n W q)
    generalize levR c n = r at *
    generalize lossR c n = s at *
    generalize askE c n = ee at *
    obtain ⟨r1, r2⟩ := r
    obtain ⟨s1, s2⟩ := s
    unfold tupR at C1 C2 C3 C4
    simp only at C1 C2 C3 C4
    go_enter Try.func7, Try.ntmps7
    go_wp2_with fail
    refine (long_any _ _ _ HV.out).mono ?_
    rintro e w' ⟨rfl, rfl⟩
    rw [L.out]
    go_wp2_with fail
    refine (C1.out _ HV.out).mono ?_
    rintro e w1 ⟨rfl, hb1⟩
    go_wp2_with fail
    have B1 := below_trans hb1 (below_alloc w1 (.cells #[.int .i64 r1, .int .i64 r2] 23))
    refine (C2.out _ (HV.out.below B1)).mono ?_
    rintro e w2 ⟨rfl, hb2⟩
    have X2 := (BoxR.new w1 (r1, r2) 23).below hb2
    have B2 := below_trans (below_trans B1 hb2) (below_alloc w2 (.cells #[.int .i64 r1, .int .i64 r2] 23))
    clear B1
    go_wp2_with fail
    refine (C3.out _ (HV.out.below B2)).mono ?_
    rintro e w3 ⟨rfl, hb3⟩
    have X3 := (X2.below (below_alloc w2 _)).below hb3
    have Y3 := (BoxR.new w2 (r1, r2) 23).below hb3
    have B3 := below_trans (below_trans B2 hb3) (below_alloc w3 (.cells #[.int .i64 s1, .int .i64 s2] 23))
    clear B2
    go_wp2_with fail
    refine (C4.out _ (HV.out.below B3)).mono ?_
    rintro e w4 ⟨rfl, hb4⟩
    have X4 := ((X3.below (below_alloc w3 _)).below hb4)
    have Y4 := ((Y3.below (below_alloc w3 _)).below hb4)
    have Z4 := (BoxR.new w3 (s1, s2) 23).below hb4
    have B4 := Lib.hid (below_trans (below_trans B3 hb4) (below_alloc w4 (.cells #[.int .i64 s1, .int .i64 s2] 23)))
    obtain ⟨x0, x1⟩ := X4
    obtain ⟨y0, y1⟩ := Y4
    obtain ⟨z0, z1⟩ := Z4
    simp only at x0 x1 y0 y1 z0 z1
    have l1 : w1.heap.size < w4.heap.size := World.block_lt_of_cell? _ _ x0
    have l2 : w2.heap.size < w4.heap.size := World.block_lt_of_cell? _ _ y0
    have l3 : w3.heap.size < w4.heap.size := World.block_lt_of_cell? _ _ z0
    clear B3 X2 X3 Y3 hb1 hb2 hb3 hb4
    go_wp2_with fail
    refine (sane_any _).mono ?_
    rintro e w5 ⟨rfl, hb5⟩
    go_wp2
    go_ret
    exact ⟨rfl, below_trans B4.out hb5⟩

end Go.Proofs.Ytaakefjblldccaa
