/- Texts of this claim, laid together: L, M, M2, LawA. -/
import Derived.Test.YtaakefjblldccaaK
import Derived.Test.YtaakefjblldccaaB

/- Contracts: whether two awards are those of the garment; Agrees of both. -/
namespace Go.Proofs.Ytaakefjblldccaa
open Go.RowKit

/-- Two awards are what the garment gives of both together. -/
def fairB (a b : Int) (x y : Rat2) : Bool :=
  x.1 * y.2 - max (x.1 * y.2 + y.1 * x.2 - b * (x.2 * y.2)) 0 == y.1 * x.2 - max (x.1 * y.2 + y.1 * x.2 - a * (x.2 * y.2)) 0

set_option maxHeartbeats 2000000 in
theorem fair_any (a b n d m f : Int) (w : World) (h1 : 0 ≤ n * f ∧ n * f ≤ 1000000000000000) (h2 : 0 ≤ m * d ∧ m * d ≤ 1000000000000000) (h3 : 0 ≤ d * f ∧ d * f ≤ 1000000000000)
    (h4 : 0 ≤ a * (d * f) ∧ a * (d * f) ≤ 1000000000000000) (h5 : 0 ≤ b * (d * f) ∧ b * (d * f) ≤ 1000000000000000) :
    Calls Try.prog 62 #[.int .i64 a, .int .i64 b, .agg #[.int .i64 n, .int .i64 d], .agg #[.int .i64 m, .int .i64 f]] w fun e w' => e = .returned (.bool (fairB a b (n, d) (m, f))) ∧ Below w.heap.size w w' := by
  have F : Hid (fairB a b (n, d) (m, f) = (n * f - max (n * f + m * d - b * (d * f)) 0 == m * d - max (n * f + m * d - a * (d * f)) 0)) := Lib.hid rfl
  rw [F.out]
  go_enter Try.func62, Try.ntmps62
  go_wp2
  refine wp_region_quiet_lit (by kernel_rfl) (by kernel_rfl) ?_
  repeat (any_goals (first | go_big_quiet_step (fail) | quiet_step (fail)))
  all_goals (refine wpQuiet_nil ?_; intro _ hw'; obtain ⟨nq, hw''⟩ := hw'; subst hw'')
  all_goals go_wp2
  all_goals go_ret
  all_goals refine ⟨ret_b (by rw [Bool.eq_iff_iff, beq_iff_eq, beq_iff_eq]; omega), ?_⟩
  all_goals
    refine below_drewN ?_ _
    repeat (first | assumption | exact Below.refl _ _ | refine Below.setCell ?_ (by first | omega | (simp; done) | (simp; omega)) _ | refine Below.drew ?_ | refine Below.alloc ?_ (by first | omega | (simp; done) | (simp; omega)) _)

end Go.Proofs.Ytaakefjblldccaa

/- Contract: Agrees of the program. -/
namespace Go.Proofs.Ytaakefjblldccaa
open Go.RowKit

def fairAt (c : List Int) (l : List Rat2) (i k : Nat) : Bool := fairB (c.getD i 0) (c.getD k 0) (l.getD i (0, 0)) (l.getD k (0, 0))
/-- Any two agree. -/
def agB (c : List Int) (l : List Rat2) : Bool := (List.range l.length).all fun i => (List.range i).all fun k => fairAt c l i k
def agV (c : List Int) (n : Int) (l : List Rat2) : Bool := sV c n l && agB c l

theorem agB_bad {c : List Int} {l : List Rat2} {i k : Nat} (hi : i < l.length) (hk : k < i) (h : fairAt c l i k = false) : agB c l = false := by
  unfold agB
  rw [List.all_eq_false]
  refine ⟨i, List.mem_range.2 hi, ?_⟩
  rw [Bool.not_eq_true, List.all_eq_false]
  exact ⟨k, List.mem_range.2 hk, by rw [h]; decide⟩
theorem agB_good {c : List Int} {l : List Rat2} (h : ∀ i, i < l.length → ∀ k, k < i → fairAt c l i k = true) : agB c l = true := by
  unfold agB
  rw [List.all_eq_true]
  intro i hi
  rw [List.all_eq_true]
  exact fun k hk => h i (List.mem_range.1 hi) k (List.mem_range.1 hk)

/-- The program's test is the reference's. -/
theorem garm_fair (a b n d m f : Int) : (garm a b (n * f + m * d) (d * f) == 2 * n * f) = fairB a b (n, d) (m, f) := by
  have e : fairB a b (n, d) (m, f) = (n * f - max (n * f + m * d - b * (d * f)) 0 == m * d - max (n * f + m * d - a * (d * f)) 0) := rfl
  rw [e, Int.mul_assoc 2 n f, Bool.eq_iff_iff, beq_iff_eq, beq_iff_eq]
  unfold garm
  omega

theorem inB_of {c : List Int} {l : List Rat2} (h : inAll c l = true) {k : Nat} (hk : k < l.length) : 0 ≤ (l.getD k (0, 0)).1 ∧ (l.getD k (0, 0)).1 ≤ c.getD k 0 * (l.getD k (0, 0)).2 := by
  unfold inAll at h
  rw [List.all_eq_true] at h
  have := h k (List.mem_range.2 hk)
  unfold inB at this
  rwa [Bool.and_eq_true, decide_eq_true_eq, decide_eq_true_eq] at this

theorem garment_q (a b parts whole : Int) (w : World) (q : Nat) (h1 : 0 ≤ b * whole ∧ b * whole ≤ 10000000000000000) (h2 : 0 ≤ a * whole ∧ a * whole ≤ 10000000000000000) (h3 : -10000000000000000 ≤ parts ∧ parts ≤ 10000000000000000) :
    Calls Try.prog 54 #[.int .i64 a, .int .i64 b, .int .i64 parts, .int .i64 whole] (w.drewN q) fun e w'' => e = .returned (.int .i64 (garm a b parts whole)) ∧ ∃ k, w'' = w.drewN k :=
  Calls.quiet_of_same ((garment_any a b parts whole (w.drewN q) h1 h2 h3).mono fun _ _ h => ⟨h.1, h.2.symm⟩)

set_option maxRecDepth 100000 in
set_option maxHeartbeats 4000000 in
theorem tAgrees_any (v x : Value) (c : List Int) (l : List Rat2) (n : Int) (w : World) (hv : IntsAt w v c) (hx : RatsAt w x l) :
    Calls Try.prog 23 #[v, .int .i64 n, x] w fun e w' => e = .returned (.tuple #[.bool (agV c n l), .int .i64 (awE c n l)]) ∧ Below w.heap.size w w' := by
  unfold agV sV
  by_cases h0 : awE c n l = 0
  · obtain ⟨hc, hn, ha⟩ := awE_ok h0
    rw [h0]
    have A := Lib.hid h0
    clear h0
    cases hs : shB c n l with
    | false =>
      have S := Lib.hid hs
      clear hs
      go_enter Try.func23, Try.ntmps23
      go_wp2_with fail
      refine (awarded_any _ _ _ _ _ _ hv hx).mono ?_
      rintro e w1 ⟨rfl, hb1⟩
      rw [A.out]
      go_wp2_with fail
      refine (shares_any _ _ _ _ _ _ (hv.below hb1) (hx.below hb1) hc ha hn).mono ?_
      rintro e w2 ⟨rfl, hb2⟩
      rw [S.out]
      go_wp2
      go_ret2
      exact ⟨by simp, below_trans hb1 hb2⟩
    | true =>
      have S := Lib.hid hs
      have hs0 : Hid (inAll c l = true) := Lib.hid (by unfold shB at hs; rw [Bool.and_eq_true] at hs; exact hs.1)
      have hlen : l.length = c.length := by
        unfold arA at ha
        rw [Bool.and_eq_true, beq_iff_eq] at ha
        exact ha.1
      have hlo := hc.lo
      have hhi := hc.hi
      have l8 : l.length ≤ 8 := by omega
      have l0 : 0 < l.length := by omega
      have lc : l.length ≤ c.length := by omega
      obtain ⟨b, off, cap, rfl, hcc⟩ := ints_cell hv (by omega)
      obtain ⟨b2, off2, cap2, hcap, rfl, hcl⟩ := rats_cell hx l0
      clear hs hlen
      go_enter Try.func23, Try.ntmps23
      go_wp2_with fail
      refine (awarded_any _ _ _ _ _ _ hv hx).mono ?_
      rintro e w1 ⟨rfl, hb1⟩
      rw [A.out]
      go_wp2_with fail
      refine (shares_any _ _ _ _ _ _ (hv.below hb1) (hx.below hb1) hc ha hn).mono ?_
      rintro e w2 ⟨rfl, hb2⟩
      rw [S.out]
      have hb3 := below_trans hb1 hb2
      clear hb1 hb2 hv hx
      go_wp2
      go_loopw [28] (fun i wr => ∃ k : Nat, k ≤ l.length ∧ i = .int .i64 k ∧ Hid (∀ i, i < k → ∀ j, j < i → fairAt c l i j = true) ∧ Below w.heap.size w wr) (fun i _ => l.length - (intOf i).toNat)
      case atStart => exact ⟨0, Nat.zero_le _, rfl, Lib.hid (fun j hj => by omega), hb3⟩
      case round =>
        obtain ⟨k, hk, rfl, H, hbel⟩ := hrel
        obtain ⟨wo, rfl⟩ : ∃ wo : World, wo = wr := ⟨_, rfl⟩
        by_cases hlt : k < l.length
        · obtain ⟨x0, d0⟩ := hcl k hlt
          have x1 := keep_cell hbel x0
          have d1 := keep_cell hbel d0
          have bd := awd_bd ha hlt
          have kc : k < c.length := by omega
          have cb := hc.holds _ (mem_getD kc)
          have ib := (inB_of hs0.out hlt)
          have k3 : k ≤ cap2 := by omega
          have hsz := hbel.size
          have HA := Lib.hid ha
          have HCC := Lib.hid hcc
          have HCL := Lib.hid hcl
          have HC := Lib.hid hc
          have ck := keep_cell hbel (hcc k kc)
          clear x0 d0 hcc hcl ha hc
          have FA : Hid (∀ j, fairAt c l k j = fairB (c.getD k 0) (c.getD j 0) (l.getD k (0, 0)) (l.getD j (0, 0))) := Lib.hid (fun _ => rfl)
          generalize hxd : l.getD k (0, 0) = xd at *
          obtain ⟨x, d⟩ := xd
          have XD := Lib.hid hxd
          clear hxd
          simp only at x1 d1 bd ib FA
          generalize c.getD k 0 = ci at *
          go_wp2
          go_loopw [37] (fun i wr => ∃ j : Nat, j ≤ k ∧ i = .int .i64 j ∧ Hid (∀ i, i < j → fairAt c l k i = true) ∧ Below (wo.heap.size + 1) (wo.alloc (.cells #[.int .i64 x, .int .i64 d] 23)) wr) (fun i _ => k - (intOf i).toNat)
          case atStart => exact ⟨0, Nat.zero_le _, rfl, Lib.hid (fun j hj => by omega), Below.refl _ _⟩
          case round =>
            obtain ⟨j, hj, rfl, H2, hb4⟩ := hrel
            have hsz2 : wo.heap.size + 1 ≤ wr.heap.size := by have := hb4.size; rwa [World.size_alloc] at this
            have hr2 : Below wo.heap.size wo wr := ((Below.refl _ wo).alloc (Nat.le_refl _) _).trans (hb4.mono (Nat.le_succ _))
            have hw2 := below_trans hbel hr2
            by_cases hjk : j < k
            · have jl : j < l.length := by omega
              have hsz3 : wo.heap.size < wr.heap.size := by omega
              have jc : j < c.length := by omega
              obtain ⟨y0, e0⟩ := HCL.out j jl
              have y1 := keep_cell hw2 y0
              have e1 := keep_cell hw2 e0
              have cj := keep_cell hw2 (HCC.out j jc)
              have ck2 := keep_cell hr2 ck
              have x2 : wr.cell? ⟨wo.heap.size, 0, none⟩ = some (.int .i64 x) := (hb4.cell (p := ⟨wo.heap.size, 0, none⟩) (Nat.lt_succ_self _)).trans (by simp)
              have d2 : wr.cell? ⟨wo.heap.size, 1, none⟩ = some (.int .i64 d) := (hb4.cell (p := ⟨wo.heap.size, 1, none⟩) (Nat.lt_succ_self _)).trans (by simp)
              have bdj := awd_bd HA.out jl
              have cbj := HC.out.holds _ (mem_getD jc)
              have ibj := (inB_of hs0.out jl)
              have F := Lib.hid (FA.out j)
              have hbl : b < wr.heap.size := World.block_lt_of_cell? _ _ cj
              have hbl2 : b2 < wr.heap.size := World.block_lt_of_cell? _ _ y1
              clear y0 e0 x1 d1 ck
              generalize l.getD j (0, 0) = yd at *
              obtain ⟨m, f⟩ := yd
              simp only at y1 e1 bdj ibj F
              generalize c.getD j 0 = cjv at *
              have G := Lib.hid (garm_fair ci cjv x d m f)
              have s1 : ci * d ≤ 1000 * d := Int.mul_le_mul_of_nonneg_right (by omega) (by omega)
              have s2 : cjv * f ≤ 1000 * f := Int.mul_le_mul_of_nonneg_right (by omega) (by omega)
              have m1 : 0 ≤ x * f ∧ x * f ≤ 1000000000 * 1000000 := ⟨Int.mul_nonneg (by omega) (by omega), Int.mul_le_mul (by omega) (by omega) (by omega) (by omega)⟩
              have m2 : 0 ≤ m * d ∧ m * d ≤ 1000000000 * 1000000 := ⟨Int.mul_nonneg (by omega) (by omega), Int.mul_le_mul (by omega) (by omega) (by omega) (by omega)⟩
              have m3 : 0 ≤ d * f ∧ d * f ≤ 1000000 * 1000000 := ⟨Int.mul_nonneg (by omega) (by omega), Int.mul_le_mul (by omega) (by omega) (by omega) (by omega)⟩
              have m4 : 0 ≤ ci * (d * f) ∧ ci * (d * f) ≤ 1000 * (1000000 * 1000000) := ⟨Int.mul_nonneg (by omega) (by omega), Int.mul_le_mul (by omega) (by omega) (by omega) (by omega)⟩
              have m5 : 0 ≤ cjv * (d * f) ∧ cjv * (d * f) ≤ 1000 * (1000000 * 1000000) := ⟨Int.mul_nonneg (by omega) (by omega), Int.mul_le_mul (by omega) (by omega) (by omega) (by omega)⟩
              have m6 : 0 ≤ 2 * x * f ∧ 2 * x * f ≤ 2000000000 * 1000000 := ⟨Int.mul_nonneg (by omega) (by omega), Int.mul_le_mul (by omega) (by omega) (by omega) (by omega)⟩
              have GQ := fun (ww : World) q => garment_q ci cjv (x * f + m * d) (d * f) ww q (by omega) (by omega) (by omega)
              have GQ' := Lib.hid GQ
              clear GQ s1 s2
              cases hfa : fairAt c l k j with
              | false =>
                have hne : (garm ci cjv (x * f + m * d) (d * f) != 2 * x * f) = true := by simp only [bne, G.out, ← F.out, hfa]; rfl
                have R := Lib.hid (agB_bad hlt hjk hfa)
                clear hfa
                go_wp2
                refine wp_region_quiet_lit (by kernel_rfl) (by kernel_rfl) ?_
                repeat (any_goals (first | go_big_quiet_step ((go_at_call 54; exact GQ'.out _ _)) | quiet_step (fail)))
                all_goals (refine wpQuiet_nil ?_; intro _ hw'; obtain ⟨nq, hw''⟩ := hw'; subst hw'')
                all_goals go_wp2
                go_ret2
                exact ⟨by rw [R.out]; simp, below_drewN (hw2.alloc (by omega) _) _⟩
              | true =>
                have hne : (garm ci cjv (x * f + m * d) (d * f) != 2 * x * f) = false := by simp only [bne, G.out, ← F.out, hfa]; rfl
                have FT := Lib.hid hfa
                clear hfa
                go_wp2
                refine wp_region_quiet_lit (by kernel_rfl) (by kernel_rfl) ?_
                repeat (any_goals (first | go_big_quiet_step ((go_at_call 54; exact GQ'.out _ _)) | quiet_step (fail)))
                all_goals (refine wpQuiet_nil ?_; intro _ hw'; obtain ⟨nq, hw''⟩ := hw'; subst hw'')
                all_goals go_wp2
                go_roundw
                case rel => exact ⟨j + 1, by omega, by go_num, Lib.hid (fun i hi => by
                  rcases Nat.lt_succ_iff_lt_or_eq.1 hi with h | rfl
                  · exact H2.out i h
                  · exact FT.out), below_drewN (hb4.alloc hsz2 _) _⟩
                case measure => simp [intOf]; omega
            · have ej : j = k := by omega
              subst ej
              go_wp2
              go_roundw
              case rel => exact ⟨j + 1, by omega, by go_num, Lib.hid (fun i hi => by
                rcases Nat.lt_succ_iff_lt_or_eq.1 hi with h | rfl
                · exact H.out i h
                · exact H2.out), hw2⟩
              case measure => simp [intOf]; omega
        · have e : k = l.length := by omega
          subst e
          have G := Lib.hid (agB_good H.out)
          go_wp2
          go_ret2
          exact ⟨by rw [G.out]; simp, hbel⟩
  · have hb : (awE c n l != 0) = true := by rw [bne_iff_ne]; exact h0
    rw [decide_eq_false h0]
    clear h0
    go_enter Try.func23, Try.ntmps23
    go_wp2_with fail
    refine (awarded_any _ _ _ _ _ _ hv hx).mono ?_
    rintro e w1 ⟨rfl, hb1⟩
    go_wp2
    go_ret2
    exact ⟨rfl, hb1⟩

end Go.Proofs.Ytaakefjblldccaa

/- Contract: Agrees of the reference. -/
namespace Go.Proofs.Ytaakefjblldccaa
open Go.RowKit

theorem agV_no {c : List Int} {n : Int} {l : List Rat2} (h : sV c n l = false) : agV c n l = false := by unfold agV; rw [h]; rfl

set_option maxRecDepth 100000 in
set_option maxHeartbeats 4000000 in
theorem rAgrees_any (v x : Value) (c : List Int) (l : List Rat2) (n : Int) (w : World) (hv : IntsAt w v c) (hx : RatsAt w x l) :
    Calls Try.prog 24 #[v, .int .i64 n, x] w fun e w' => e = .returned (.tuple #[.bool (agV c n l), .int .i64 (awE c n l)]) ∧ Below w.heap.size w w' := by
  by_cases h0 : awE c n l = 0
  · obtain ⟨hc, hn, ha⟩ := awE_ok h0
    rw [h0]
    have A := Lib.hid h0
    cases hs : shB c n l with
    | false =>
      have R := Lib.hid (agV_no (show sV c n l = false by unfold sV; rw [hs, Bool.and_false]))
      have S : Hid (sV c n l = false) := Lib.hid (by unfold sV; rw [hs, Bool.and_false])
      clear hs h0
      go_enter Try.func24, Try.ntmps24
      go_wp2_with fail
      refine (rShares_any _ _ _ _ _ _ hv hx).mono ?_
      rintro e w1 ⟨rfl, hb1⟩
      rw [A.out, S.out]
      go_wp2
      go_ret2
      exact ⟨by rw [R.out]; simp, hb1⟩
    | true =>
      have S : Hid (sV c n l = true) := Lib.hid (by unfold sV; rw [hs, h0]; rfl)
      have AG : Hid (agV c n l = agB c l) := Lib.hid (by unfold agV; rw [S.out]; rfl)
      have hs0 : Hid (inAll c l = true) := Lib.hid (by unfold shB at hs; rw [Bool.and_eq_true] at hs; exact hs.1)
      have hlen : l.length = c.length := by
        unfold arA at ha
        rw [Bool.and_eq_true, beq_iff_eq] at ha
        exact ha.1
      have hlo := hc.lo
      have hhi := hc.hi
      have l8 : l.length ≤ 8 := by omega
      have l0 : 0 < l.length := by omega
      have lc : l.length ≤ c.length := by omega
      have cl : c.length ≤ l.length := by omega
      have HS1 := Lib.hid (rShares_any v x c l n w hv hx)
      obtain ⟨b, off, cap, rfl, hcc⟩ := ints_cell hv (by omega)
      obtain ⟨b2, off2, cap2, hcap, rfl, hcl⟩ := rats_cell hx l0
      clear hs hlen h0
      have HA := Lib.hid ha
      have HCC := Lib.hid hcc
      have HCL := Lib.hid hcl
      have HC := Lib.hid hc
      clear hcc hcl ha hc hv hx
      go_enter Try.func24, Try.ntmps24
      go_wp2_with fail
      refine HS1.out.mono ?_
      rintro e w1 ⟨rfl, hb1⟩
      rw [A.out, S.out]
      clear HS1
      go_wp2
      go_loopw [10, 11] (fun i _ wr => ∃ k : Nat, k ≤ l.length ∧ i = .int .i64 k ∧ Hid (∀ i, i < k → ∀ j, j < i → fairAt c l i j = true) ∧ Below w.heap.size w wr) (fun i _ _ => l.length - (intOf i).toNat)
      case atStart => exact ⟨0, Nat.zero_le _, rfl, Lib.hid (fun j hj => by omega), hb1⟩
      case round =>
        obtain ⟨k, hk, rfl, H, hbel⟩ := hrel
        obtain ⟨wo, rfl⟩ : ∃ wo : World, wo = wr := ⟨_, rfl⟩
        by_cases hlt : k < l.length
        · have kc : k < c.length := by omega
          have bd := awd_bd HA.out hlt
          have cb := HC.out.holds _ (mem_getD kc)
          have ib := (inB_of hs0.out hlt)
          have FA : Hid (∀ j, fairAt c l k j = fairB (c.getD k 0) (c.getD j 0) (l.getD k (0, 0)) (l.getD j (0, 0))) := Lib.hid (fun _ => rfl)
          have ck0 := HCC.out k kc
          obtain ⟨x0, d0⟩ := HCL.out k hlt
          generalize l.getD k (0, 0) = xd at *
          obtain ⟨x, d⟩ := xd
          simp only at bd ib FA x0 d0
          generalize c.getD k 0 = ci at *
          have X0 := Lib.hid x0
          have D0 := Lib.hid d0
          have CK0 := Lib.hid ck0
          clear x0 d0 ck0
          go_wp2
          go_loopw [11] (fun i wr => ∃ j : Nat, j ≤ k ∧ i = .int .i64 j ∧ Hid (∀ i, i < j → fairAt c l k i = true) ∧ Below w.heap.size w wr) (fun i _ => k - (intOf i).toNat)
          case atStart => exact ⟨0, Nat.zero_le _, rfl, Lib.hid (fun j hj => by omega), hbel⟩
          case round =>
            obtain ⟨j, hj, rfl, H2, hb4⟩ := hrel
            by_cases hjk : j < k
            · have jl : j < l.length := by omega
              have jc : j < c.length := by omega
              obtain ⟨y0, e0⟩ := HCL.out j jl
              have y1 := keep_cell hb4 y0
              have e1 := keep_cell hb4 e0
              have x1 := keep_cell hb4 X0.out
              have d1 := keep_cell hb4 D0.out
              have cj := keep_cell hb4 (HCC.out j jc)
              have ck := keep_cell hb4 CK0.out
              have bdj := awd_bd HA.out jl
              have cbj := HC.out.holds _ (mem_getD jc)
              have ibj := (inB_of hs0.out jl)
              have F := Lib.hid (FA.out j)
              clear y0 e0
              generalize l.getD j (0, 0) = yd at *
              obtain ⟨m, f⟩ := yd
              simp only at y1 e1 bdj ibj F
              generalize c.getD j 0 = cjv at *
              have s1 : ci * d ≤ 1000 * d := Int.mul_le_mul_of_nonneg_right (by omega) (by omega)
              have s2 : cjv * f ≤ 1000 * f := Int.mul_le_mul_of_nonneg_right (by omega) (by omega)
              have m1 : 0 ≤ x * f ∧ x * f ≤ 1000000000 * 1000000 := ⟨Int.mul_nonneg (by omega) (by omega), Int.mul_le_mul (by omega) (by omega) (by omega) (by omega)⟩
              have m2 : 0 ≤ m * d ∧ m * d ≤ 1000000000 * 1000000 := ⟨Int.mul_nonneg (by omega) (by omega), Int.mul_le_mul (by omega) (by omega) (by omega) (by omega)⟩
              have m3 : 0 ≤ d * f ∧ d * f ≤ 1000000 * 1000000 := ⟨Int.mul_nonneg (by omega) (by omega), Int.mul_le_mul (by omega) (by omega) (by omega) (by omega)⟩
              have m4 : 0 ≤ ci * (d * f) ∧ ci * (d * f) ≤ 1000 * (1000000 * 1000000) := ⟨Int.mul_nonneg (by omega) (by omega), Int.mul_le_mul (by omega) (by omega) (by omega) (by omega)⟩
              have m5 : 0 ≤ cjv * (d * f) ∧ cjv * (d * f) ≤ 1000 * (1000000 * 1000000) := ⟨Int.mul_nonneg (by omega) (by omega), Int.mul_le_mul (by omega) (by omega) (by omega) (by omega)⟩
              have FQ := fun (ww : World) => fair_any ci cjv x d m f ww (by omega) (by omega) (by omega) (by omega) (by omega)
              have FQ' := Lib.hid FQ
              clear FQ s1 s2 m1 m2 m3 m4 m5
              cases hfa : fairAt c l k j with
              | false =>
                have hne : Hid (fairB ci cjv (x, d) (m, f) = false) := Lib.hid (by rw [← F.out, hfa])
                have R := Lib.hid (agB_bad hlt hjk hfa)
                clear hfa
                go_wp2
                go_still_tail 16, (by kernel_rfl)
                change wpList _ _ _ _ _ wr.drew
                go_wp2_with fail
                refine (FQ'.out _).mono ?_
                rintro e w3 ⟨rfl, hb5⟩
                rw [hne.out]
                go_wp2
                go_ret2
                exact ⟨by rw [AG.out, R.out]; simp, hb4.drew.trans (hb5.mono (by have := hb4.size; simp; omega))⟩
              | true =>
                have hne : Hid (fairB ci cjv (x, d) (m, f) = true) := Lib.hid (by rw [← F.out, hfa])
                have FT := Lib.hid hfa
                clear hfa
                go_wp2
                go_still_tail 16, (by kernel_rfl)
                change wpList _ _ _ _ _ wr.drew
                go_wp2_with fail
                refine (FQ'.out _).mono ?_
                rintro e w3 ⟨rfl, hb5⟩
                rw [hne.out]
                go_wp2
                go_roundw
                case rel => exact ⟨j + 1, by omega, by go_num, Lib.hid (fun i hi => by
                  rcases Nat.lt_succ_iff_lt_or_eq.1 hi with h | rfl
                  · exact H2.out i h
                  · exact FT.out), hb4.drew.trans (hb5.mono (by have := hb4.size; simp; omega))⟩
                case measure => simp [intOf]; omega
            · have ej : j = k := by omega
              subst ej
              go_wp2
              go_roundw
              case rel => exact ⟨j + 1, by omega, by go_num, Lib.hid (fun i hi => by
                rcases Nat.lt_succ_iff_lt_or_eq.1 hi with h | rfl
                · exact H.out i h
                · exact H2.out), hb4⟩
              case measure => simp [intOf]; omega
        · have e : k = l.length := by omega
          subst e
          have G := Lib.hid (agB_good H.out)
          go_wp2
          go_ret2
          exact ⟨by rw [AG.out, G.out]; simp, hbel⟩
  · have R : Hid (agV c n l = false) := Lib.hid (agV_no (by unfold sV; rw [decide_eq_false h0]; rfl))
    have S : Hid (sV c n l = false) := Lib.hid (by unfold sV; rw [decide_eq_false h0]; rfl)
    have hb : (awE c n l != 0) = true := by rw [bne_iff_ne]; exact h0
    clear h0
    go_enter Try.func24, Try.ntmps24
    go_wp2_with fail
    refine (rShares_any _ _ _ _ _ _ hv hx).mono ?_
    rintro e w1 ⟨rfl, hb1⟩
    rw [S.out]
    go_wp2
    go_ret2
    exact ⟨by rw [R.out]; simp, hb1⟩

end Go.Proofs.Ytaakefjblldccaa

/- The walk of the law FundChecks. -/
namespace Go.Proofs.Ytaakefjblldccaa
open Go.RowKit

set_option maxHeartbeats 400000 in
theorem long_any (v : Value) (c : List Int) (w : World) (hv : IntsAt w v c) :
    Calls Try.prog 20 #[v] w fun e w' => e = .returned (.bool (decide (40 < c.length))) ∧ w = w' := by
  obtain ⟨a, cap, rfl, hl, hq⟩ := hv
  clear hq
  go_enter Try.func20, Try.ntmps20
  go_wp2
  go_ret
  exact ⟨ret_b (by rw [Bool.eq_iff_iff]; simp; omega), rfl⟩

set_option maxHeartbeats 2000000 in
theorem FundChecks_walk (v x : Value) (c : List Int) (l : List Rat2) (n : Int) (w : World) (hv : IntsAt w v c) (hx : RatsAt w x l) :
    Calls Try.prog 4 #[v, .int .i64 n, x] w fun e w' => e = .returned (.bool true) ∧ Below w.heap.size w w' := by
  have HV := Lib.hid hv
  have HX := Lib.hid hx
  obtain ⟨a, cap, rfl, hl, hq⟩ := hx
  clear hq hv
  by_cases h1 : 40 < c.length
  · have L : Hid (decide (40 < c.length) = true) := Lib.hid (decide_eq_true h1)
    clear h1
    go_enter Try.func4, Try.ntmps4
    go_wp2_with fail
    refine (long_any _ _ _ HV.out).mono ?_
    rintro e w' ⟨rfl, rfl⟩
    rw [L.out]
    go_wp2_with fail
    refine (sane_any _).mono ?_
    rintro e w1 ⟨rfl, hb1⟩
    go_wp2
    go_ret
    exact ⟨rfl, hb1⟩
  · have L : Hid (decide (40 < c.length) = false) := Lib.hid (decide_eq_false h1)
    clear h1
    by_cases h2 : 40 < l.length
    · have h2' : ((40 : Int) < (l.length : Int)) := by omega
      go_enter Try.func4, Try.ntmps4
      go_wp2_with fail
      refine (long_any _ _ _ HV.out).mono ?_
      rintro e w' ⟨rfl, rfl⟩
      rw [L.out]
      go_wp2_with fail
      refine (sane_any _).mono ?_
      rintro e w1 ⟨rfl, hb1⟩
      go_wp2
      go_ret
      exact ⟨rfl, hb1⟩
    · have h2' : decide ((40 : Int) < (l.length : Int)) = false := decide_eq_false (by omega)
      go_enter Try.func4, Try.ntmps4
      go_wp2_with fail
      refine (long_any _ _ _ HV.out).mono ?_
      rintro e w' ⟨rfl, rfl⟩
      rw [L.out]
      go_wp2_with fail
      refine (tShares_any _ _ _ _ _ _ HV.out HX.out).mono ?_
      rintro e w1 ⟨rfl, hb1⟩
      go_wp2_with fail
      refine (rShares_any _ _ _ _ _ _ (HV.out.below hb1) (HX.out.below hb1)).mono ?_
      rintro e w2 ⟨rfl, hb2'⟩
      have hb2 := below_trans hb1 hb2'
      go_wp2_with fail
      refine (tAgrees_any _ _ _ _ _ _ (HV.out.below hb2) (HX.out.below hb2)).mono ?_
      rintro e w3 ⟨rfl, hb3'⟩
      have hb3 := below_trans hb2 hb3'
      go_wp2_with fail
      refine (rAgrees_any _ _ _ _ _ _ (HV.out.below hb3) (HX.out.below hb3)).mono ?_
      rintro e w4 ⟨rfl, hb4'⟩
      have hb4 := below_trans hb3 hb4'
      go_wp2_with fail
      refine (sane_any _).mono ?_
      rintro e w5 ⟨rfl, hb5⟩
      go_wp2
      go_ret
      exact ⟨rfl, below_trans hb4 hb5⟩

end Go.Proofs.Ytaakefjblldccaa
