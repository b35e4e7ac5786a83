/- Contract: Agrees of the reference. -/
import Derived.Test.YtaakefjblldccaaM
namespace Go.Proofs.Ytaakefjblldccaa
open Go.RowKit

theorem agV_no {c : List Int} {n : Int} {l : List Rat2} (h : sV c n l = false) : agV c n l = false := by unfold agV; rw [h]; rfl

set_option maxRecDepth 100000 in
set_option maxHeartbeats 4000000 in
theorem rAgrees_any (v x : Value) (c : List Int) (l : List Rat2) (n : Int) (w : World) (hv : IntsAt w v c) (hx : RatsAt w x l) :
    Calls Try.prog 24 #[v, .int .i64 n, x] w fun e w' => e = .returned (.tuple #[.bool (agV c n l), .int .i64 (awE c n l)]) ∧ Below w.heap.size w w' := by
  by_cases h0 : awE c n l = 0
  · obtain ⟨hc, hn, ha⟩ := awE_ok h0
    rw [h0]
    have A := Lib.hid h0
    cases hs : shB c n l with
    | false =>
      have R := Lib.hid (agV_no (show sV c n l = false by unfold sV; rw [hs, Bool.and_false]))
      have S : Hid (sV c n l = false) := Lib.hid (by unfold sV; rw [hs, Bool.and_false])
      clear hs h0
      go_enter Try.func24, Try.ntmps24
      go_wp2_with fail
      refine (rShares_any _ _ _ _ _ _ hv hx).mono ?_
      rintro e w1 ⟨rfl, hb1⟩
      rw [A.out, S.out]
      go_wp2
      go_ret2
      exact ⟨by rw [R.out]; simp, hb1⟩
    | true =>
      have S : Hid (sV c n l = true) := Lib.hid (by unfold sV; rw [hs, h0]; rfl)
      have AG : Hid (agV c n l = agB c l) := Lib.hid (by unfold agV; rw [S.out]; rfl)
      have hs0 : Hid (inAll c l = true) := Lib.hid (by unfold shB at hs; rw [Bool.and_eq_true] at hs; exact hs.1)
      have hlen : l.length = c.length := by
        unfold arA at ha
        rw [Bool.and_eq_true, beq_iff_eq] at ha
        exact ha.1
      have hlo := hc.lo
      have hhi := hc.hi
      have l8 : l.length ≤ 8 := by omega
      have l0 : 0 < l.length := by omega
      have lc : l.length ≤ c.length := by omega
      have cl : c.length ≤ l.length := by omega
      have HS1 := Lib.hid (rShares_any v x c l n w hv hx)
      obtain ⟨b, off, cap, rfl, hcc⟩ := ints_cell hv (by omega)
      obtain ⟨b2, off2, cap2, hcap, rfl, hcl⟩ := rats_cell hx l0
      clear hs hlen h0
      have HA := Lib.hid ha
      have HCC := Lib.hid hcc
      have HCL := Lib.hid hcl
      have HC := Lib.hid hc
      clear hcc hcl ha hc hv hx
      go_enter Try.func24, Try.ntmps24
      go_wp2_with fail
      refine HS1.out.mono ?_
      rintro e w1 ⟨rfl, hb1⟩
      rw [A.out, S.out]
      clear HS1
      go_wp2
      go_loopw [10, 11] (fun i _ wr => ∃ k : Nat, k ≤ l.length ∧ i = .int .i64 k ∧ Hid (∀ i, i < k → ∀ j, j < i → fairAt c l i j = true) ∧ Below w.heap.size w wr) (fun i _ _ => l.length - (intOf i).toNat)
      case atStart => exact ⟨0, Nat.zero_le _, rfl, Lib.hid (fun j hj => by omega), hb1⟩
      case round =>
        obtain ⟨k, hk, rfl, H, hbel⟩ := hrel
        obtain ⟨wo, rfl⟩ : ∃ wo : World, wo = wr := ⟨_, rfl⟩
        by_cases hlt : k < l.length
        · have kc : k < c.length := by omega
          have bd := awd_bd HA.out hlt
          have cb := HC.out.holds _ (mem_getD kc)
          have ib := (inB_of hs0.out hlt)
          have FA : Hid (∀ j, fairAt c l k j = fairB (c.getD k 0) (c.getD j 0) (l.getD k (0, 0)) (l.getD j (0, 0))) := Lib.hid (fun _ => rfl)
          have ck0 := HCC.out k kc
          obtain ⟨x0, d0⟩ := HCL.out k hlt
          generalize l.getD k (0, 0) = xd at *
          obtain ⟨x, d⟩ := xd
          simp only at bd ib FA x0 d0
          generalize c.getD k 0 = ci at *
          have X0 := Lib.hid x0
          have D0 := Lib.hid d0
          have CK0 := Lib.hid ck0
          clear x0 d0 ck0
          go_wp2
          go_loopw [11] (fun i wr => ∃ j : Nat, j ≤ k ∧ i = .int .i64 j ∧ Hid (∀ i, i < j → fairAt c l k i = true) ∧ Below w.heap.size w wr) (fun i _ => k - (intOf i).toNat)
          case atStart => exact ⟨0, Nat.zero_le _, rfl, Lib.hid (fun j hj => by omega), hbel⟩
          case round =>
            obtain ⟨j, hj, rfl, H2, hb4⟩ := hrel
            by_cases hjk : j < k
            · have jl : j < l.length := by omega
              have jc : j < c.length := by omega
              obtain ⟨y0, e0⟩ := HCL.out j jl
              have y1 := keep_cell hb4 y0
              have e1 := keep_cell hb4 e0
              have x1 := keep_cell hb4 X0.out
              have d1 := keep_cell hb4 D0.out
              have cj := keep_cell hb4 (HCC.out j jc)
              have ck := keep_cell hb4 CK0.out
              have bdj := awd_bd HA.out jl
              have cbj := HC.out.holds _ (mem_getD jc)
              have ibj := (inB_of hs0.out jl)
              have F := Lib.hid (FA.out j)
              clear y0 e0
              generalize l.getD j (0, 0) = yd at *
              obtain ⟨m, f⟩ := yd
              simp only at y1 e1 bdj ibj F
              generalize c.getD j 0 = cjv at *
              have s1 : ci * d ≤ 1000 * d := Int.mul_le_mul_of_nonneg_right (by omega) (by omega)
              have s2 : cjv * f ≤ 1000 * f := Int.mul_le_mul_of_nonneg_right (by omega) (by omega)
              have m1 : 0 ≤ x * f ∧ x * f ≤ 1000000000 * 1000000 := ⟨Int.mul_nonneg (by omega) (by omega), Int.mul_le_mul (by omega) (by omega) (by omega) (by omega)⟩
              have m2 : 0 ≤ m * d ∧ m * d ≤ 1000000000 * 1000000 := ⟨Int.mul_nonneg (by omega) (by omega), Int.mul_le_mul (by omega) (by omega) (by omega) (by omega)⟩
              have m3 : 0 ≤ d * f ∧ d * f ≤ 1000000 * 1000000 := ⟨Int.mul_nonneg (by omega) (by omega), Int.mul_le_mul (by omega) (by omega) (by omega) (by omega)⟩
              have m4 : 0 ≤ ci * (d * f) ∧ ci * (d * f) ≤ 1000 * (1000000 * 1000000) := ⟨Int.mul_nonneg (by omega) (by omega), Int.mul_le_mul (by omega) (by omega) (by omega) (by omega)⟩
              have m5 : 0 ≤ cjv * (d * f) ∧ cjv * (d * f) ≤ 1000 * (1000000 * 1000000) := ⟨Int.mul_nonneg (by omega) (by omega), Int.mul_le_mul (by omega) (by omega) (by omega) (by omega)⟩
              have FQ := fun (ww : World) => fair_any ci cjv x d m f ww (by omega) (by omega) (by omega) (by omega) (by omega)
              have FQ' := Lib.hid FQ
              clear FQ s1 s2 m1 m2 m3 m4 m5
              cases hfa : fairAt c l k j with
              | false =>
                have hne : Hid (fairB ci cjv (x, d) (m, f) = false) := Lib.hid (by rw [← F.out, hfa])
                have R := Lib.hid (agB_bad hlt hjk hfa)
                clear hfa
                go_wp2
                go_still_tail 16, (by kernel_rfl)
                change wpList _ _ _ _ _ wr.drew
                go_wp2_with fail
                refine (FQ'.out _).mono ?_
                rintro e w3 ⟨rfl, hb5⟩
                rw [hne.out]
                go_wp2
                go_ret2
                exact ⟨by rw [AG.out, R.out]; simp, hb4.drew.trans (hb5.mono (by have := hb4.size; simp; omega))⟩
              | true =>
                have hne : Hid (fairB ci cjv (x, d) (m, f) = true) := Lib.hid (by rw [← F.out, hfa])
                have FT := Lib.hid hfa
                clear hfa
                go_wp2
                go_still_tail 16, (by kernel_rfl)
                change wpList _ _ _ _ _ wr.drew
                go_wp2_with fail
                refine (FQ'.out _).mono ?_
                rintro e w3 ⟨rfl, hb5⟩
                rw [hne.out]
                go_wp2
                go_roundw
                case rel => exact ⟨j + 1, by omega, by go_num, Lib.hid (fun i hi => by
                  rcases Nat.lt_succ_iff_lt_or_eq.1 hi with h | rfl
                  · exact H2.out i h
                  · exact FT.out), hb4.drew.trans (hb5.mono (by have := hb4.size; simp; omega))⟩
                case measure => simp [intOf]; omega
            · have ej : j = k := by omega
              subst ej
              go_wp2
              go_roundw
              case rel => exact ⟨j + 1, by omega, by go_num, Lib.hid (fun i hi => by
                rcases Nat.lt_succ_iff_lt_or_eq.1 hi with h | rfl
                · exact H.out i h
                · exact H2.out), hb4⟩
              case measure => simp [intOf]; omega
        · have e : k = l.length := by omega
          subst e
          have G := Lib.hid (agB_good H.out)
          go_wp2
          go_ret2
          exact ⟨by rw [AG.out, G.out]; simp, hbel⟩
  · have R : Hid (agV c n l = false) := Lib.hid (agV_no (by unfold sV; rw [decide_eq_false h0]; rfl))
    have S : Hid (sV c n l = false) := Lib.hid (by unfold sV; rw [decide_eq_false h0]; rfl)
    have hb : (awE c n l != 0) = true := by rw [bne_iff_ne]; exact h0
    clear h0
    go_enter Try.func24, Try.ntmps24
    go_wp2_with fail
    refine (rShares_any _ _ _ _ _ _ hv hx).mono ?_
    rintro e w1 ⟨rfl, hb1⟩
    rw [S.out]
    go_wp2
    go_ret2
    exact ⟨by rw [R.out]; simp, hb1⟩

end Go.Proofs.Ytaakefjblldccaa
