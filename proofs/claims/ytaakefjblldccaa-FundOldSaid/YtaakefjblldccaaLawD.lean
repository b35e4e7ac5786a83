/- The walk of the law FundSides. -/
import Derived.Test.YtaakefjblldccaaV
namespace Go.Proofs.Ytaakefjblldccaa
open Go.RowKit

theorem side_fact {c : List Int} {e : Int} {r r' : Int}
    (L : ∀ x ∈ c, frF c e r x * frQ c (tot c - e) r' + frF c (tot c - e) r' x * frQ c e r = x * frQ c e r * frQ c (tot c - e) r') :
    ∀ i, i < c.length → ((shareL c e r).getD i (0, 0)).1 * ((shareL c (tot c - e) r').getD i (0, 0)).2 + ((shareL c (tot c - e) r').getD i (0, 0)).1 * ((shareL c e r).getD i (0, 0)).2 =
      c.getD i 0 * ((shareL c e r).getD i (0, 0)).2 * ((shareL c (tot c - e) r').getD i (0, 0)).2 := fun i hi => by
  rw [share_frac c e r, share_frac c (tot c - e) r', getD_map0 hi, getD_map0 hi]
  exact red_add (frQ_pos _ _ _) (frQ_pos _ _ _) (L _ (mem_getD hi))

theorem shareE_good {c : List Int} {e r : Int} (ha : askE c e = 0) (hr : 1 ≤ r ∧ r ≤ 4) : shareE c e r = 0 ∧ shareV c e r = shareL c e r := by
  have h : shareE c e r = 0 := by unfold shareE; rw [if_pos ha, if_pos ((betw_iff _ _ _).2 hr)]
  exact ⟨h, by unfold shareV; rw [if_pos h]⟩

/-- Awards by a rule, when all is well. -/
theorem Share_good (v : Value) (c : List Int) (n r : Int) (w : World) (hv : IntsAt w v c) (ha : askE c n = 0) (hr : 1 ≤ r ∧ r ≤ 4) :
    Calls Try.prog 27 #[v, .int .i64 n, .int .i64 r] w fun e w' => ∃ x, e = .returned (.tuple #[x, .int .i64 0]) ∧ RatsAt w' x (shareL c n r) ∧ Below w.heap.size w w' := by
  obtain ⟨h1, h2⟩ := shareE_good ha hr
  refine (Share_any v c n r w hv).mono ?_
  rintro e w' ⟨x, rfl, ho, hb⟩
  have hl := shareV_len c n r
  rw [h2] at ho hl
  exact ⟨x, by rw [h1], ho.at hl, hb⟩


set_option maxRecDepth 100000 in
set_option maxHeartbeats 8000000 in
theorem FundSides_walk (v : Value) (c : List Int) (n : Int) (w : World) (hv : IntsAt w v c) :
    Calls Try.prog 9 #[v, .int .i64 n] w fun e w' => e = .returned (.bool true) ∧ Below w.heap.size w w' := by
  have HV := Lib.hid hv
  clear hv
  by_cases h40 : 40 < c.length
  · have L : Hid (decide (40 < c.length) = true) := Lib.hid (decide_eq_true h40)
    clear h40
    go_enter Try.func9, Try.ntmps9
    go_wp2_with fail
    refine (long_any _ _ _ HV.out).mono ?_
    rintro e w' ⟨rfl, rfl⟩
    rw [L.out]
    go_wp2_with fail
    refine (sane_any _).mono ?_
    rintro e w1 ⟨rfl, hb1⟩
    go_wp2
    go_ret
    exact ⟨rfl, hb1⟩
  · have L : Hid (decide (40 < c.length) = false) := Lib.hid (decide_eq_false h40)
    clear h40
    by_cases h0 : askE c n = 0
    · obtain ⟨hc, h1, h2⟩ := askE_ok2 h0
      have A := Lib.hid h0
      have HH := Lib.hid hc
      have hlo := hc.lo
      have hhi := hc.hi
      have ht := hc.tot
      obtain ⟨b, off, cap, rfl, hcc⟩ := ints_cell HV.out (by omega)
      have HCC := Lib.hid hcc
      clear hcc
      have HP := Lib.hid hc.pos
      have HN := Lib.hid hc.ne
      have M : Hid (missV c n = tot c - n) := Lib.hid (by unfold missV; rw [if_pos h0])
      have AM0 := askE_miss h0
      obtain ⟨t, ht2⟩ : ∃ t, t = tot c - n := ⟨_, rfl⟩
      have TT : Hid (tot c - n = t) := Lib.hid ht2.symm
      rw [← ht2] at AM0
      have AM := Lib.hid AM0
      have ht3 : t ≤ tot c ∧ 0 ≤ t := by omega
      clear h0 hc AM0 ht2
      go_enter Try.func9, Try.ntmps9
      go_wp2_with fail
      refine (long_any _ _ _ HV.out).mono ?_
      rintro e w' ⟨rfl, rfl⟩
      rw [L.out]
      go_wp2_with fail
      refine (Missing_any _ _ _ _ HV.out).mono ?_
      rintro e w' ⟨rfl, rfl⟩
      rw [M.out, A.out, TT.out]
      go_wp2
      go_loopw [9] (fun i wr => ∃ k : Nat, k ≤ 3 ∧ i = .int .i64 k ∧ Below (w.heap.size + 2) ((w.alloc (.cells #[.int .i64 3, .int .i64 4, .int .i64 1] 52)).alloc (.cells #[.int .i64 2, .int .i64 4, .int .i64 1] 52)) wr) (fun i _ => 3 - (intOf i).toNat)
      case atStart => exact ⟨0, by omega, rfl, Below.refl _ _⟩
      case round =>
        obtain ⟨k, hk, rfl, hbel⟩ := hrel
        obtain ⟨wo, rfl⟩ : ∃ wo : World, wo = wr := ⟨_, rfl⟩
        have hb0 : Below w.heap.size w wo := ((Below.refl _ w).alloc (Nat.le_refl _) _ |>.alloc (by simp) _).trans (hbel.mono (by omega))
        by_cases hk0 : k = 0
        · subst hk0
          rw [show ((0 : Nat) : Int) = 0 from rfl]
          have SA := Lib.hid (fun W q => Share_good (.slice (some ⟨b, off, none⟩) c.length cap) c n 3 W q A.out (by omega))
          have SB := Lib.hid (fun W q => Share_good (.slice (some ⟨b, off, none⟩) c.length cap) c t 2 W q AM.out (by omega))
          have OA := Lib.hid (shr_okv (HH.out.shr2 (r := 3) h1 h2 (by omega)))
          have OB := Lib.hid (shr_okv (HH.out.shr2 (e := t) (r := 2) (by omega) (by omega) (by omega)))
          have EQ := Lib.hid (TT.out ▸ side_fact (c := c) (e := n) (r := 3) (r' := 2) (fun x _ => sides_3 n x))
          generalize shareL c n 3 = la at *
          generalize shareL c t 2 = lb at *
          have z0 : wo.cell? ⟨w.heap.size, 0, none⟩ = some (.int .i64 3) := (hbel.cell (p := ⟨w.heap.size, 0, none⟩) (by simp)).trans (by simp)
          have z1 : wo.cell? ⟨w.heap.size + 1, 0, none⟩ = some (.int .i64 2) := (hbel.cell (p := ⟨w.heap.size + 1, 0, none⟩) (by simp)).trans (by simp)
          have hs1 : w.heap.size + 1 < wo.heap.size := World.block_lt_of_cell? _ _ z1
          go_wp2_with fail
          refine (SA.out _ (HV.out.below hb0)).mono ?_
          rintro e w1 ⟨v1, rfl, HA, hb1⟩
          have z2 := keep_cell hb1 z1
          go_wp2_with fail
          refine (SB.out _ ((HV.out.below hb0).below hb1)).mono ?_
          rintro e w2 ⟨v2, rfl, HB, hb2⟩
          have HA2 := HA.below hb2
          have hb3 := below_trans hb1 hb2
          go_wp2_with fail
          refine (valid_ok _ _ _ _ _ ((HV.out.below hb0).below hb3) HA2 HH.out OA.out).mono ?_
          rintro e w3 ⟨rfl, hb4⟩
          have hb5 := below_trans hb3 hb4
          go_wp2_with fail
          refine (valid_ok _ _ _ _ _ ((HV.out.below hb0).below hb5) (HB.below hb4) HH.out OB.out).mono ?_
          rintro e w4 ⟨rfl, hb6⟩
          have hb7 := below_trans hb5 hb6
          have HA4 := Lib.hid ((HA2.below hb4).below hb6)
          have HB4 := Lib.hid ((HB.below hb4).below hb6)
          have hb8 : Below w.heap.size w w4 := below_trans hb0 hb7
          have hbel4 : Below (w.heap.size + 2) ((w.alloc (.cells #[.int .i64 3, .int .i64 4, .int .i64 1] 52)).alloc (.cells #[.int .i64 2, .int .i64 4, .int .i64 1] 52)) w4 := hbel.trans (hb7.mono (by have := hs1; omega))
          obtain ⟨ba, oa, ca, _, rfl, hla⟩ := rats_cell HA4.out (by have := OA.out.1; omega)
          obtain ⟨bb, ob, cb, _, rfl, hlb⟩ := rats_cell HB4.out (by have := OB.out.1; omega)
          have RA := Lib.hid hla
          have RB := Lib.hid hlb
          clear HA HB HA2 hb1 hb2 hb3 hb4 hb5 hb6 hla hlb z0 z1 z2 hb0 hbel hb7
          have lla : c.length ≤ la.length := by have := OA.out.1; omega
          have llb : c.length ≤ lb.length := by have := OB.out.1; omega
          go_wp2
          go_loopw [14] (fun i wr => ∃ j : Nat, j ≤ c.length ∧ i = .int .i64 j ∧ Below w4.heap.size w4 wr) (fun i _ => c.length - (intOf i).toNat)
          case atStart => exact ⟨0, Nat.zero_le _, rfl, Below.refl _ _⟩
          case round =>
            obtain ⟨j, hj, rfl, hbj⟩ := hrel
            by_cases hlt : j < c.length
            · obtain ⟨x0, d0⟩ := RA.out j (by omega)
              obtain ⟨y0, f0⟩ := RB.out j (by omega)
              have x1 := keep_cell hbj x0
              have d1 := keep_cell hbj d0
              have y1 := keep_cell hbj y0
              have f1 := keep_cell hbj f0
              have c1 := keep_cell (below_trans hb8 hbj) (HCC.out j hlt)
              have hx := OA.out.2 j hlt
              have hy := OB.out.2 j hlt
              have hcb := HH.out.holds _ (mem_getD hlt)
              have hne : (((la.getD j (0, 0)).1 * (lb.getD j (0, 0)).2 + (lb.getD j (0, 0)).1 * (la.getD j (0, 0)).2) != (c.getD j 0 * (la.getD j (0, 0)).2 * (lb.getD j (0, 0)).2)) = false := by
                rw [bne_eq_false_iff_eq]; exact EQ.out j hlt
              clear x0 d0 y0 f0
              have ja : (j : Int) < (la.length : Int) := by omega
              have jb : (j : Int) < (lb.length : Int) := by omega
              have hlt' : (j : Int) < (c.length : Int) := by omega
              generalize la.getD j (0, 0) = xd at *
              generalize lb.getD j (0, 0) = yd at *
              generalize c.getD j 0 = cl at *
              obtain ⟨p, d⟩ := xd
              obtain ⟨q, f⟩ := yd
              simp only at x1 d1 y1 f1 hx hy hne
              have s1 : cl * d ≤ 1000 * d := Int.mul_le_mul_of_nonneg_right (by omega) (by omega)
              have s2 : cl * f ≤ 1000 * f := Int.mul_le_mul_of_nonneg_right (by omega) (by omega)
              have m0 : 0 ≤ cl * d := Int.mul_nonneg (by omega) (by omega)
              have m1 : 0 ≤ p * f ∧ p * f ≤ 10000000 * 10000 := ⟨Int.mul_nonneg (by omega) (by omega), Int.mul_le_mul (by omega) (by omega) (by omega) (by omega)⟩
              have m2 : 0 ≤ q * d ∧ q * d ≤ 10000000 * 10000 := ⟨Int.mul_nonneg (by omega) (by omega), Int.mul_le_mul (by omega) (by omega) (by omega) (by omega)⟩
              have m3 : 0 ≤ cl * d * f ∧ cl * d * f ≤ 10000000 * 10000 := ⟨Int.mul_nonneg (by omega) (by omega), Int.mul_le_mul (by omega) (by omega) (by omega) (by omega)⟩
              go_wp2
              refine wp_region_quiet_lit (by kernel_rfl) (by kernel_rfl) ?_
              repeat (any_goals (first | go_big_quiet_step (fail) | quiet_step (fail)))
              all_goals (refine wpQuiet_nil ?_; intro _ hw'; obtain ⟨nq, hw''⟩ := hw'; subst hw'')
              all_goals go_wp2
              go_roundw
              case rel => exact ⟨j + 1, by omega, by go_num, below_drewN hbj _⟩
              case measure => simp [intOf]; omega
            · have e : j = c.length := by omega
              subst e
              have hb9 := hbel4.trans (hbj.mono (by have := hbel4.size; simpa using this))
              go_wp2
              go_roundw
              case rel => exact ⟨0 + 1, by omega, rfl, hb9⟩
              case measure => simp [intOf]
        by_cases hk1 : k = 1
        · subst hk1
          rw [show ((1 : Nat) : Int) = 1 from rfl]
          have SA := Lib.hid (fun W q => Share_good (.slice (some ⟨b, off, none⟩) c.length cap) c n 4 W q A.out (by omega))
          have SB := Lib.hid (fun W q => Share_good (.slice (some ⟨b, off, none⟩) c.length cap) c t 4 W q AM.out (by omega))
          have OA := Lib.hid (shr_okv (HH.out.shr2 (r := 4) h1 h2 (by omega)))
          have OB := Lib.hid (shr_okv (HH.out.shr2 (e := t) (r := 4) (by omega) (by omega) (by omega)))
          have EQ := Lib.hid (TT.out ▸ side_fact (c := c) (e := n) (r := 4) (r' := 4) (sides_4 HN.out n))
          generalize shareL c n 4 = la at *
          generalize shareL c t 4 = lb at *
          have z0 : wo.cell? ⟨w.heap.size, 1, none⟩ = some (.int .i64 4) := (hbel.cell (p := ⟨w.heap.size, 1, none⟩) (by simp)).trans (by simp)
          have z1 : wo.cell? ⟨w.heap.size + 1, 1, none⟩ = some (.int .i64 4) := (hbel.cell (p := ⟨w.heap.size + 1, 1, none⟩) (by simp)).trans (by simp)
          have hs1 : w.heap.size + 1 < wo.heap.size := World.block_lt_of_cell? _ _ z1
          go_wp2_with fail
          refine (SA.out _ (HV.out.below hb0)).mono ?_
          rintro e w1 ⟨v1, rfl, HA, hb1⟩
          have z2 := keep_cell hb1 z1
          go_wp2_with fail
          refine (SB.out _ ((HV.out.below hb0).below hb1)).mono ?_
          rintro e w2 ⟨v2, rfl, HB, hb2⟩
          have HA2 := HA.below hb2
          have hb3 := below_trans hb1 hb2
          go_wp2_with fail
          refine (valid_ok _ _ _ _ _ ((HV.out.below hb0).below hb3) HA2 HH.out OA.out).mono ?_
          rintro e w3 ⟨rfl, hb4⟩
          have hb5 := below_trans hb3 hb4
          go_wp2_with fail
          refine (valid_ok _ _ _ _ _ ((HV.out.below hb0).below hb5) (HB.below hb4) HH.out OB.out).mono ?_
          rintro e w4 ⟨rfl, hb6⟩
          have hb7 := below_trans hb5 hb6
          have HA4 := Lib.hid ((HA2.below hb4).below hb6)
          have HB4 := Lib.hid ((HB.below hb4).below hb6)
          have hb8 : Below w.heap.size w w4 := below_trans hb0 hb7
          have hbel4 : Below (w.heap.size + 2) ((w.alloc (.cells #[.int .i64 3, .int .i64 4, .int .i64 1] 52)).alloc (.cells #[.int .i64 2, .int .i64 4, .int .i64 1] 52)) w4 := hbel.trans (hb7.mono (by have := hs1; omega))
          obtain ⟨ba, oa, ca, _, rfl, hla⟩ := rats_cell HA4.out (by have := OA.out.1; omega)
          obtain ⟨bb, ob, cb, _, rfl, hlb⟩ := rats_cell HB4.out (by have := OB.out.1; omega)
          have RA := Lib.hid hla
          have RB := Lib.hid hlb
          clear HA HB HA2 hb1 hb2 hb3 hb4 hb5 hb6 hla hlb z0 z1 z2 hb0 hbel hb7
          have lla : c.length ≤ la.length := by have := OA.out.1; omega
          have llb : c.length ≤ lb.length := by have := OB.out.1; omega
          go_wp2
          go_loopw [14] (fun i wr => ∃ j : Nat, j ≤ c.length ∧ i = .int .i64 j ∧ Below w4.heap.size w4 wr) (fun i _ => c.length - (intOf i).toNat)
          case atStart => exact ⟨0, Nat.zero_le _, rfl, Below.refl _ _⟩
          case round =>
            obtain ⟨j, hj, rfl, hbj⟩ := hrel
            by_cases hlt : j < c.length
            · obtain ⟨x0, d0⟩ := RA.out j (by omega)
              obtain ⟨y0, f0⟩ := RB.out j (by omega)
              have x1 := keep_cell hbj x0
              have d1 := keep_cell hbj d0
              have y1 := keep_cell hbj y0
              have f1 := keep_cell hbj f0
              have c1 := keep_cell (below_trans hb8 hbj) (HCC.out j hlt)
              have hx := OA.out.2 j hlt
              have hy := OB.out.2 j hlt
              have hcb := HH.out.holds _ (mem_getD hlt)
              have hne : (((la.getD j (0, 0)).1 * (lb.getD j (0, 0)).2 + (lb.getD j (0, 0)).1 * (la.getD j (0, 0)).2) != (c.getD j 0 * (la.getD j (0, 0)).2 * (lb.getD j (0, 0)).2)) = false := by
                rw [bne_eq_false_iff_eq]; exact EQ.out j hlt
              clear x0 d0 y0 f0
              have ja : (j : Int) < (la.length : Int) := by omega
              have jb : (j : Int) < (lb.length : Int) := by omega
              have hlt' : (j : Int) < (c.length : Int) := by omega
              generalize la.getD j (0, 0) = xd at *
              generalize lb.getD j (0, 0) = yd at *
              generalize c.getD j 0 = cl at *
              obtain ⟨p, d⟩ := xd
              obtain ⟨q, f⟩ := yd
              simp only at x1 d1 y1 f1 hx hy hne
              have s1 : cl * d ≤ 1000 * d := Int.mul_le_mul_of_nonneg_right (by omega) (by omega)
              have s2 : cl * f ≤ 1000 * f := Int.mul_le_mul_of_nonneg_right (by omega) (by omega)
              have m0 : 0 ≤ cl * d := Int.mul_nonneg (by omega) (by omega)
              have m1 : 0 ≤ p * f ∧ p * f ≤ 10000000 * 10000 := ⟨Int.mul_nonneg (by omega) (by omega), Int.mul_le_mul (by omega) (by omega) (by omega) (by omega)⟩
              have m2 : 0 ≤ q * d ∧ q * d ≤ 10000000 * 10000 := ⟨Int.mul_nonneg (by omega) (by omega), Int.mul_le_mul (by omega) (by omega) (by omega) (by omega)⟩
              have m3 : 0 ≤ cl * d * f ∧ cl * d * f ≤ 10000000 * 10000 := ⟨Int.mul_nonneg (by omega) (by omega), Int.mul_le_mul (by omega) (by omega) (by omega) (by omega)⟩
              go_wp2
              refine wp_region_quiet_lit (by kernel_rfl) (by kernel_rfl) ?_
              repeat (any_goals (first | go_big_quiet_step (fail) | quiet_step (fail)))
              all_goals (refine wpQuiet_nil ?_; intro _ hw'; obtain ⟨nq, hw''⟩ := hw'; subst hw'')
              all_goals go_wp2
              go_roundw
              case rel => exact ⟨j + 1, by omega, by go_num, below_drewN hbj _⟩
              case measure => simp [intOf]; omega
            · have e : j = c.length := by omega
              subst e
              have hb9 := hbel4.trans (hbj.mono (by have := hbel4.size; simpa using this))
              go_wp2
              go_roundw
              case rel => exact ⟨1 + 1, by omega, rfl, hb9⟩
              case measure => simp [intOf]
        by_cases hk2 : k = 2
        · subst hk2
          rw [show ((2 : Nat) : Int) = 2 from rfl]
          have SA := Lib.hid (fun W q => Share_good (.slice (some ⟨b, off, none⟩) c.length cap) c n 1 W q A.out (by omega))
          have SB := Lib.hid (fun W q => Share_good (.slice (some ⟨b, off, none⟩) c.length cap) c t 1 W q AM.out (by omega))
          have OA := Lib.hid (shr_okv (HH.out.shr2 (r := 1) h1 h2 (by omega)))
          have OB := Lib.hid (shr_okv (HH.out.shr2 (e := t) (r := 1) (by omega) (by omega) (by omega)))
          have EQ := Lib.hid (TT.out ▸ side_fact (c := c) (e := n) (r := 1) (r' := 1) (sides_1 HP.out n))
          generalize shareL c n 1 = la at *
          generalize shareL c t 1 = lb at *
          have z0 : wo.cell? ⟨w.heap.size, 2, none⟩ = some (.int .i64 1) := (hbel.cell (p := ⟨w.heap.size, 2, none⟩) (by simp)).trans (by simp)
          have z1 : wo.cell? ⟨w.heap.size + 1, 2, none⟩ = some (.int .i64 1) := (hbel.cell (p := ⟨w.heap.size + 1, 2, none⟩) (by simp)).trans (by simp)
          have hs1 : w.heap.size + 1 < wo.heap.size := World.block_lt_of_cell? _ _ z1
          go_wp2_with fail
          refine (SA.out _ (HV.out.below hb0)).mono ?_
          rintro e w1 ⟨v1, rfl, HA, hb1⟩
          have z2 := keep_cell hb1 z1
          go_wp2_with fail
          refine (SB.out _ ((HV.out.below hb0).below hb1)).mono ?_
          rintro e w2 ⟨v2, rfl, HB, hb2⟩
          have HA2 := HA.below hb2
          have hb3 := below_trans hb1 hb2
          go_wp2_with fail
          refine (valid_ok _ _ _ _ _ ((HV.out.below hb0).below hb3) HA2 HH.out OA.out).mono ?_
          rintro e w3 ⟨rfl, hb4⟩
          have hb5 := below_trans hb3 hb4
          go_wp2_with fail
          refine (valid_ok _ _ _ _ _ ((HV.out.below hb0).below hb5) (HB.below hb4) HH.out OB.out).mono ?_
          rintro e w4 ⟨rfl, hb6⟩
          have hb7 := below_trans hb5 hb6
          have HA4 := Lib.hid ((HA2.below hb4).below hb6)
          have HB4 := Lib.hid ((HB.below hb4).below hb6)
          have hb8 : Below w.heap.size w w4 := below_trans hb0 hb7
          have hbel4 : Below (w.heap.size + 2) ((w.alloc (.cells #[.int .i64 3, .int .i64 4, .int .i64 1] 52)).alloc (.cells #[.int .i64 2, .int .i64 4, .int .i64 1] 52)) w4 := hbel.trans (hb7.mono (by have := hs1; omega))
          obtain ⟨ba, oa, ca, _, rfl, hla⟩ := rats_cell HA4.out (by have := OA.out.1; omega)
          obtain ⟨bb, ob, cb, _, rfl, hlb⟩ := rats_cell HB4.out (by have := OB.out.1; omega)
          have RA := Lib.hid hla
          have RB := Lib.hid hlb
          clear HA HB HA2 hb1 hb2 hb3 hb4 hb5 hb6 hla hlb z0 z1 z2 hb0 hbel hb7
          have lla : c.length ≤ la.length := by have := OA.out.1; omega
          have llb : c.length ≤ lb.length := by have := OB.out.1; omega
          go_wp2
          go_loopw [14] (fun i wr => ∃ j : Nat, j ≤ c.length ∧ i = .int .i64 j ∧ Below w4.heap.size w4 wr) (fun i _ => c.length - (intOf i).toNat)
          case atStart => exact ⟨0, Nat.zero_le _, rfl, Below.refl _ _⟩
          case round =>
            obtain ⟨j, hj, rfl, hbj⟩ := hrel
            by_cases hlt : j < c.length
            · obtain ⟨x0, d0⟩ := RA.out j (by omega)
              obtain ⟨y0, f0⟩ := RB.out j (by omega)
              have x1 := keep_cell hbj x0
              have d1 := keep_cell hbj d0
              have y1 := keep_cell hbj y0
              have f1 := keep_cell hbj f0
              have c1 := keep_cell (below_trans hb8 hbj) (HCC.out j hlt)
              have hx := OA.out.2 j hlt
              have hy := OB.out.2 j hlt
              have hcb := HH.out.holds _ (mem_getD hlt)
              have hne : (((la.getD j (0, 0)).1 * (lb.getD j (0, 0)).2 + (lb.getD j (0, 0)).1 * (la.getD j (0, 0)).2) != (c.getD j 0 * (la.getD j (0, 0)).2 * (lb.getD j (0, 0)).2)) = false := by
                rw [bne_eq_false_iff_eq]; exact EQ.out j hlt
              clear x0 d0 y0 f0
              have ja : (j : Int) < (la.length : Int) := by omega
              have jb : (j : Int) < (lb.length : Int) := by omega
              have hlt' : (j : Int) < (c.length : Int) := by omega
              generalize la.getD j (0, 0) = xd at *
              generalize lb.getD j (0, 0) = yd at *
              generalize c.getD j 0 = cl at *
              obtain ⟨p, d⟩ := xd
              obtain ⟨q, f⟩ := yd
              simp only at x1 d1 y1 f1 hx hy hne
              have s1 : cl * d ≤ 1000 * d := Int.mul_le_mul_of_nonneg_right (by omega) (by omega)
              have s2 : cl * f ≤ 1000 * f := Int.mul_le_mul_of_nonneg_right (by omega) (by omega)
              have m0 : 0 ≤ cl * d := Int.mul_nonneg (by omega) (by omega)
              have m1 : 0 ≤ p * f ∧ p * f ≤ 10000000 * 10000 := ⟨Int.mul_nonneg (by omega) (by omega), Int.mul_le_mul (by omega) (by omega) (by omega) (by omega)⟩
              have m2 : 0 ≤ q * d ∧ q * d ≤ 10000000 * 10000 := ⟨Int.mul_nonneg (by omega) (by omega), Int.mul_le_mul (by omega) (by omega) (by omega) (by omega)⟩
              have m3 : 0 ≤ cl * d * f ∧ cl * d * f ≤ 10000000 * 10000 := ⟨Int.mul_nonneg (by omega) (by omega), Int.mul_le_mul (by omega) (by omega) (by omega) (by omega)⟩
              go_wp2
              refine wp_region_quiet_lit (by kernel_rfl) (by kernel_rfl) ?_
              repeat (any_goals (first | go_big_quiet_step (fail) | quiet_step (fail)))
              all_goals (refine wpQuiet_nil ?_; intro _ hw'; obtain ⟨nq, hw''⟩ := hw'; subst hw'')
              all_goals go_wp2
              go_roundw
              case rel => exact ⟨j + 1, by omega, by go_num, below_drewN hbj _⟩
              case measure => simp [intOf]; omega
            · have e : j = c.length := by omega
              subst e
              have hb9 := hbel4.trans (hbj.mono (by have := hbel4.size; simpa using this))
              go_wp2
              go_roundw
              case rel => exact ⟨2 + 1, by omega, rfl, hb9⟩
              case measure => simp [intOf]
        have e3 : k = 3 := by omega
        subst e3
        rw [show ((3 : Nat) : Int) = 3 from rfl]
        go_wp2_with fail
        refine (sane_any _).mono ?_
        rintro e w5 ⟨rfl, hb5⟩
        go_wp2
        go_ret
        exact ⟨rfl, below_trans hb0 hb5⟩
    · have M : Hid (missV c n = 0) := Lib.hid (by unfold missV; rw [if_neg h0])
      have hb : (askE c n != 0) = true := by rw [bne_iff_ne]; exact h0
      clear h0
      go_enter Try.func9, Try.ntmps9
      go_wp2_with fail
      refine (long_any _ _ _ HV.out).mono ?_
      rintro e w' ⟨rfl, rfl⟩
      rw [L.out]
      go_wp2_with fail
      refine (Missing_any _ _ _ _ HV.out).mono ?_
      rintro e w' ⟨rfl, rfl⟩
      rw [M.out]
      go_wp2_with fail
      refine (sane_any _).mono ?_
      rintro e w1 ⟨rfl, hb1⟩
      go_wp2
      go_ret
      exact ⟨rfl, hb1⟩

end Go.Proofs.Ytaakefjblldccaa
