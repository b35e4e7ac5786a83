/- Contracts: the claimant with the least award, of both. -/
import Derived.Test.YtaakefjblldccaaKb
import Derived.StillTailTactics
namespace Go.Proofs.Ytaakefjblldccaa
open Go.RowKit

/-- Where the least of the first k is. -/
def leI (l : List Rat2) : Nat → Nat
  | 0 => 0
  | k + 1 => if ltR (l.getD k (0, 0)) (l.getD (leI l k) (0, 0)) then k else leI l k
theorem leI_lt {l : List Rat2} (hl : 0 < l.length) : ∀ k, k ≤ l.length → leI l k < l.length
  | 0, _ => hl
  | k + 1, h => by
    unfold leI
    split
    · omega
    · exact leI_lt hl k (by omega)
theorem leI_val {l : List Rat2} : ∀ k, k ≤ l.length → mxTo stN l k = l.getD (leI l k) (0, 0)
  | 0, _ => by unfold mxTo leI; simp
  | k + 1, h => by
    rw [mxTo_snoc stN (by omega), leI_val k (by omega)]
    unfold stN
    rw [show leI l (k + 1) = if ltR (l.getD k (0, 0)) (l.getD (leI l k) (0, 0)) then k else leI l k from rfl]
    split <;> rfl
theorem ltR_le {a b c : Rat2} (ha : 1 ≤ a.2) (hb : 1 ≤ b.2) (hc : 1 ≤ c.2) (h : ltR a b = true) (h' : ltR c b = false) : ltR a c = true := by
  unfold ltR at *
  have h1 := of_decide_eq_true h
  have h2 := of_decide_eq_false h'
  apply decide_eq_true
  have h3 : a.1 * b.2 * c.2 < b.1 * a.2 * c.2 := Int.mul_lt_mul_of_pos_right h1 (by omega)
  have h4 : b.1 * c.2 * a.2 ≤ c.1 * b.2 * a.2 := Int.mul_le_mul_of_nonneg_right (by omega) (by omega)
  have h5 : a.1 * c.2 * b.2 < c.1 * a.2 * b.2 := by
    rw [Int.mul_right_comm a.1, Int.mul_right_comm c.1]
    rw [Int.mul_right_comm b.1] at h3
    omega
  exact Int.lt_of_mul_lt_mul_right h5 (by omega)
theorem leI_first {l : List Rat2} (hm : Mod l) : ∀ k, k ≤ l.length → (∀ j, j < k → ltR (l.getD j (0, 0)) (l.getD (leI l k) (0, 0)) = false) ∧ (∀ j, j < leI l k → ltR (l.getD (leI l k) (0, 0)) (l.getD j (0, 0)) = true)
  | 0, _ => ⟨fun j hj => by omega, fun j hj => by simp [leI] at hj⟩
  | k + 1, h => by
    obtain ⟨h1, h2⟩ := leI_first hm k (by omega)
    have hp : ∀ j, j < l.length → 1 ≤ (l.getD j (0, 0)).2 := fun j hj => (hm _ (getD_mem2 hj)).2.2.1
    have hb := leI_lt (show 0 < l.length by omega) k (by omega)
    rw [show leI l (k + 1) = if ltR (l.getD k (0, 0)) (l.getD (leI l k) (0, 0)) then k else leI l k from rfl]
    cases hc : ltR (l.getD k (0, 0)) (l.getD (leI l k) (0, 0)) with
    | true =>
      simp only [if_true]
      have h3 : ∀ j, j < k → ltR (l.getD k (0, 0)) (l.getD j (0, 0)) = true := fun j hj => ltR_le (hp k (by omega)) (hp _ hb) (hp j (by omega)) hc (h1 j hj)
      refine ⟨fun j hj => ?_, h3⟩
      rcases Nat.lt_succ_iff_lt_or_eq.1 hj with hj' | rfl
      · have h4 := h3 j hj'
        unfold ltR at h4 ⊢
        have := of_decide_eq_true h4
        exact decide_eq_false (by omega)
      · exact ltR_self _
    | false =>
      simp only [Bool.false_eq_true, if_false]
      refine ⟨fun j hj => ?_, h2⟩
      rcases Nat.lt_succ_iff_lt_or_eq.1 hj with hj' | rfl
      · exact h1 j hj'
      · exact hc
theorem leI_ne {l : List Rat2} (hm : Mod l) {j : Nat} (hj : j < leI l l.length) : l.getD j (0, 0) ≠ l.getD (leI l l.length) (0, 0) := fun h => by
  have := (leI_first hm l.length (Nat.le_refl _)).2 j hj
  rw [h, ltR_self] at this
  cases this

set_option maxHeartbeats 1000000 in
/-- slices.Index of ratios, where it is known where the first lies. -/
theorem index_hit (v : Value) (l : List Rat2) (m : Rat2) (k : Nat) (w : World) (hv : RatsAt w v l) (hk : k < l.length) (hl8 : l.length ≤ 8) (hit : l.getD k (0, 0) = m) (hn : ∀ j, j < k → l.getD j (0, 0) ≠ m) :
    Calls Try.prog 82 #[v, .agg #[.int .i64 m.1, .int .i64 m.2]] w fun e w' => e = .returned (.int .i64 k) ∧ Below w.heap.size w w' := by
  obtain ⟨b, off, cap, hcap, rfl, hcl⟩ := rats_cell hv (by omega)
  have HR := Lib.hid hcl
  have HH := Lib.hid hit
  have HN := Lib.hid hn
  obtain ⟨p, q⟩ := m
  have hB1 := (Below.refl w.heap.size w).alloc (Nat.le_refl _) (.cells #[.int .i64 p, .int .i64 q] 23)
  have HB1 := Lib.hid hB1
  have c0 : (w.alloc (.cells #[.int .i64 p, .int .i64 q] 23)).cell? ⟨w.heap.size, 0, none⟩ = some (.int .i64 p) := by simp
  have c1 : (w.alloc (.cells #[.int .i64 p, .int .i64 q] 23)).cell? ⟨w.heap.size, 1, none⟩ = some (.int .i64 q) := by simp
  have C0 := Lib.hid c0
  have C1 := Lib.hid c1
  clear hv hcl hcap hit hn hB1 c0 c1
  go_enter Try.func82, Try.ntmps82
  go_wp2
  generalize w.alloc (.cells #[.int .i64 p, .int .i64 q] 23) = w1 at *
  go_loopw [8] (fun i wr => ∃ j : Nat, j ≤ k ∧ i = .int .i64 j ∧ Below w1.heap.size w1 wr) (fun i _ => k + 1 - (intOf i).toNat)
  case atStart => exact ⟨0, Nat.zero_le _, rfl, Below.refl _ _⟩
  case round =>
    obtain ⟨j, hj, rfl, hbel⟩ := hrel
    have hjl : (j : Int) < (l.length : Int) := by omega
    obtain ⟨x0, d0⟩ := HR.out j (by omega)
    have x1 := keep_cell hbel (keep_cell HB1.out x0)
    have d1 := keep_cell hbel (keep_cell HB1.out d0)
    have b0 := keep_cell hbel C0.out
    have b1 := keep_cell hbel C1.out
    clear x0 d0
    by_cases hjk : j = k
    · subst hjk
      rw [HH.out] at x1 d1
      simp only at x1 d1
      have HBX := Lib.hid (HB1.out.trans (hbel.mono HB1.out.size))
      go_wp2
      refine wp_region_quiet_lit (by kernel_rfl) (by kernel_rfl) ?_
      repeat (any_goals (first | go_big_quiet_step (fail) | quiet_step (fail)))
      all_goals (refine wpQuiet_nil ?_; intro _ hw'; obtain ⟨nq, hw''⟩ := hw'; subst hw'')
      all_goals go_wp2
      all_goals go_ret
      all_goals exact ⟨rfl, below_drewN HBX.out _⟩
    · have hne := HN.out j (by omega)
      generalize l.getD j (0, 0) = xd at *
      obtain ⟨n, d⟩ := xd
      simp only at x1 d1
      by_cases hpn : p = n
      · subst hpn
        have hqd : (q == d) = false := beq_eq_false_iff_ne.2 (fun h => hne (by rw [h]))
        have hqd2 : decide (q = d) = false := decide_eq_false (fun h => hne (by rw [h]))
        clear hne
        go_wp2
        refine wp_region_quiet_lit (by kernel_rfl) (by kernel_rfl) ?_
        repeat (any_goals (first | go_big_quiet_step (fail) | quiet_step (fail)))
        all_goals (refine wpQuiet_nil ?_; intro _ hw'; obtain ⟨nq, hw''⟩ := hw'; subst hw'')
        all_goals go_wp2
        all_goals go_roundw
        all_goals try (case rel => exact ⟨j + 1, by omega, by go_num, below_drewN hbel _⟩)
        all_goals (case measure => simp [intOf]; omega)
      · have hqd : (p == n) = false := beq_eq_false_iff_ne.2 hpn
        have hqd2 : decide (p = n) = false := decide_eq_false hpn
        clear hne hpn
        go_wp2
        refine wp_region_quiet_lit (by kernel_rfl) (by kernel_rfl) ?_
        repeat (any_goals (first | go_big_quiet_step (fail) | quiet_step (fail)))
        all_goals (refine wpQuiet_nil ?_; intro _ hw'; obtain ⟨nq, hw''⟩ := hw'; subst hw'')
        all_goals go_wp2
        all_goals go_roundw
        all_goals try (case rel => exact ⟨j + 1, by omega, by go_num, below_drewN hbel _⟩)
        all_goals (case measure => simp [intOf]; omega)

theorem okv_mod {c : List Int} {l : List Rat2} (hc : Cvl c) (h : Okv c l) : Mod l := fun x hx => by
  obtain ⟨k, hk, rfl⟩ := List.getElem_of_mem hx
  have hk' : k < c.length := by have := h.1; omega
  obtain ⟨h1, h2, h3, h4⟩ := h.2 k hk'
  have hb := hc.holds _ (mem_getD hk')
  rw [List.getD_eq_getElem?_getD, List.getElem?_eq_getElem hk] at h1 h2 h3 h4
  simp only [Option.getD_some] at h1 h2 h3 h4
  generalize l[k] = r at *
  have h5 : c.getD k 0 * r.2 ≤ 1000 * r.2 := Int.mul_le_mul_of_nonneg_right (by omega) (by omega)
  exact ⟨by omega, by omega, h1, by omega⟩

/-- What a valid share gives. -/
structure ShOk (c : List Int) (n r : Int) (l : List Rat2) : Prop where
  okv : Okv c l
  mod : Mod l
  pos : 0 < l.length
  hi : l.length ≤ 8
  val : shareV c n r = l
theorem shOk {c : List Int} {n r : Int} (h : shareE c n r = 0) : ShOk c n r (shareL c n r) := by
  have ha : askE c n = 0 ∧ 1 ≤ r ∧ r ≤ 4 := shareE_ok h
  obtain ⟨hc, h1, h2⟩ := askE_ok2 ha.1
  have ho := shr_okv (hc.shr2 h1 h2 ha.2)
  have h3 := hc.lo
  have h4 := hc.hi
  exact ⟨ho, okv_mod hc ho, by rw [ho.1]; omega, by rw [ho.1]; omega, by unfold shareV; rw [if_pos h]⟩

def leV (c : List Int) (n r : Int) : Int := if shareE c n r = 0 then (leI (shareL c n r) (shareL c n r).length : Nat) else 0

set_option maxHeartbeats 2000000 in
theorem tLeast_any (v : Value) (c : List Int) (n r : Int) (w : World) (hv : IntsAt w v c) :
    Calls Try.prog 45 #[v, .int .i64 n, .int .i64 r] w fun e w' => e = .returned (.tuple #[.int .i64 (leV c n r), .int .i64 (shareE c n r)]) ∧ Below w.heap.size w w' := by
  have SH := Lib.hid (shared_any v c n r w hv)
  unfold GivesS at SH
  have hl := shareV_len c n r
  clear hv
  by_cases h0 : shareE c n r = 0
  · have K := shOk h0
    have LV := Lib.hid (show leV c n r = (leI (shareL c n r) (shareL c n r).length : Nat) by unfold leV; rw [if_pos h0])
    rw [K.val] at SH hl
    rw [h0] at SH ⊢
    have KK := Lib.hid K
    have HI := Lib.hid (leI_lt K.pos (shareL c n r).length (Nat.le_refl _))
    have HV := Lib.hid (leI_val (l := shareL c n r) (shareL c n r).length (Nat.le_refl _))
    have HN := Lib.hid (fun j hj => leI_ne (j := j) K.mod hj)
    clear h0 K
    generalize shareL c n r = l at *
    go_enter Try.func45, Try.ntmps45
    go_wp2_with fail
    refine SH.out.mono ?_
    rintro e w1 ⟨v1, rfl, ho1, hb1⟩
    have H1 := Lib.hid (ho1.at hl)
    have HB1 := Lib.hid hb1
    clear ho1 hb1 hl SH
    go_wp2_with fail
    refine (minFunc_any v1 l w1 H1.out KK.out.pos KK.out.hi KK.out.mod).mono ?_
    rintro e w2 ⟨rfl, hb2⟩
    have HB2 := Lib.hid hb2
    have IX := Lib.hid (fun W (hb : Below w2.heap.size w2 W) => index_hit v1 l (mxTo stN l l.length) (leI l l.length) W ((H1.out.below hb2).below hb) HI.out KK.out.hi HV.out.symm (fun j hj => by rw [HV.out]; exact HN.out j hj))
    clear hb2
    generalize mxTo stN l l.length = m at *
    obtain ⟨p, q⟩ := m
    go_wp2_with fail
    refine (IX.out _ ((Below.refl _ w2).alloc (Nat.le_refl _) _)).mono ?_
    rintro e w3 ⟨rfl, hb3⟩
    have hb2' := HB1.out.trans (HB2.out.mono HB1.out.size)
    have hb3' := ((Below.refl w2.heap.size w2).alloc (Nat.le_refl _) (.cells #[.int .i64 p, .int .i64 q] 23)).trans (hb3.mono (by simp))
    have HB3 := Lib.hid (hb2'.trans (hb3'.mono hb2'.size))
    clear hb2' hb3' hb3
    go_wp2
    go_ret2
    exact ⟨by rw [LV.out]; rfl, HB3.out⟩
  · have E := Lib.hid (show shareV c n r = [] by unfold shareV; rw [if_neg h0])
    have LV := Lib.hid (show leV c n r = 0 by unfold leV; rw [if_neg h0])
    have hb : (shareE c n r != 0) = true := bne_iff_ne.2 h0
    clear h0
    generalize shareE c n r = se at *
    go_enter Try.func45, Try.ntmps45
    go_wp2_with fail
    refine SH.out.mono ?_
    rintro e w1 ⟨v1, rfl, ho1, hb1⟩
    have H1 := ho1.at hl
    rw [E.out] at H1
    obtain ⟨oa, oc, rfl, _⟩ := H1
    have HB1 := Lib.hid hb1
    clear ho1 hb1
    go_wp2
    go_ret2
    exact ⟨by rw [LV.out]; rfl, HB1.out⟩

set_option maxRecDepth 100000 in
set_option maxHeartbeats 4000000 in
theorem rLeast_any (v : Value) (c : List Int) (n r : Int) (w : World) (hv : IntsAt w v c) :
    Calls Try.prog 46 #[v, .int .i64 n, .int .i64 r] w fun e w' => e = .returned (.tuple #[.int .i64 (leV c n r), .int .i64 (shareE c n r)]) ∧ Below w.heap.size w w' := by
  have SH := Lib.hid (rShare_any v c n r w hv)
  unfold GivesS at SH
  have hl := shareV_len c n r
  clear hv
  by_cases h0 : shareE c n r = 0
  · have K := shOk h0
    have LV := Lib.hid (show leV c n r = (leI (shareL c n r) (shareL c n r).length : Nat) by unfold leV; rw [if_pos h0])
    rw [K.val] at SH hl
    rw [h0] at SH ⊢
    have KK := Lib.hid K
    have hhi := K.hi
    clear h0
    generalize shareL c n r = l at *
    go_enter Try.func46, Try.ntmps46
    go_wp2_with fail
    refine SH.out.mono ?_
    rintro e w1 ⟨v1, rfl, ho1, hb1⟩
    have H1 := ho1.at hl
    obtain ⟨b, off, cap, _, rfl, hcl⟩ := rats_cell H1 KK.out.pos
    have HR := Lib.hid hcl
    have HB1 := Lib.hid hb1
    clear ho1 hb1 hl SH H1 hcl K
    go_wp2
    go_loopw [10, 11] (fun s i wr => ∃ k : Nat, k ≤ l.length ∧ i = .int .i64 k ∧ s = .int .i64 (leI l k : Nat) ∧ Below w1.heap.size w1 wr) (fun _ i _ => l.length - (intOf i).toNat)
    case atStart => exact ⟨0, Nat.zero_le _, rfl, rfl, Below.refl _ _⟩
    case round =>
      obtain ⟨k, hk, rfl, rfl, hbel⟩ := hrel
      by_cases hlt : k < l.length
      · have hlt' : (k : Int) < (l.length : Int) := by omega
        have hbi := leI_lt KK.out.pos k hk
        have hbi' : ((leI l k : Nat) : Int) < (l.length : Int) := by omega
        obtain ⟨x0, d0⟩ := HR.out k hlt
        obtain ⟨y0, f0⟩ := HR.out (leI l k) hbi
        have x1 := keep_cell hbel x0
        have d1 := keep_cell hbel d0
        have y1 := keep_cell hbel y0
        have f1 := keep_cell hbel f0
        have hx := KK.out.mod _ (getD_mem2 hlt)
        have hy := KK.out.mod _ (getD_mem2 hbi)
        have LS := Lib.hid (show leI l (k + 1) = if ltR (l.getD k (0, 0)) (l.getD (leI l k) (0, 0)) then k else leI l k from rfl)
        have HBL := Lib.hid hbel
        clear x0 d0 y0 f0 hbel hbi
        generalize l.getD (leI l k) (0, 0) = yd at *
        generalize l.getD k (0, 0) = xd at *
        generalize leI l k = bi at *
        obtain ⟨n', d⟩ := xd
        obtain ⟨p, q⟩ := yd
        simp only at x1 d1 y1 f1 hx hy
        have m1 : -1000000000 * 1000000 ≤ n' * q ∧ n' * q ≤ 1000000000 * 1000000 := by
          constructor
          · have := Int.mul_le_mul_of_nonneg_right (show -1000000000 ≤ n' by omega) (show 0 ≤ q by omega)
            omega
          · have := Int.mul_le_mul_of_nonneg_right (show n' ≤ 1000000000 by omega) (show 0 ≤ q by omega)
            omega
        have m2 : -1000000000 * 1000000 ≤ p * d ∧ p * d ≤ 1000000000 * 1000000 := by
          constructor
          · have := Int.mul_le_mul_of_nonneg_right (show -1000000000 ≤ p by omega) (show 0 ≤ d by omega)
            omega
          · have := Int.mul_le_mul_of_nonneg_right (show p ≤ 1000000000 by omega) (show 0 ≤ d by omega)
            omega
        have C := Lib.hid (fun W => rBelow_any n' d p q W (by omega) (by omega))
        by_cases hgt : n' * q < p * d
        · have MK : Hid (leI l (k + 1) = k) := Lib.hid (by rw [LS.out]; unfold ltR; simp only [hgt, decide_true, if_true])
          have hcv : Hid (decide (n' * q < p * d) = true) := Lib.hid (decide_eq_true hgt)
          clear LS hgt
          go_wp2
          go_still_tail 8, (by kernel_rfl)
          change wpList _ _ _ _ _ wr.drew
          go_wp2_with fail
          refine (C.out _).mono ?_
          rintro e w2 ⟨rfl, hb2⟩
          rw [hcv.out]
          have HB2 := Lib.hid (HBL.out.trans ((((Below.refl _ wr).drew).trans hb2 : Below wr.heap.size wr w2).mono HBL.out.size))
          clear x1 d1 y1 f1 hb2
          go_wp2
          go_roundw
          case rel => exact ⟨k + 1, by omega, by go_num, by rw [MK.out], HB2.out⟩
          case measure => simp [intOf]; omega
        · have MK : Hid (leI l (k + 1) = bi) := Lib.hid (by rw [LS.out]; unfold ltR; rw [decide_eq_false hgt]; rfl)
          have hcv : Hid (decide (n' * q < p * d) = false) := Lib.hid (decide_eq_false hgt)
          clear LS hgt
          go_wp2
          go_still_tail 8, (by kernel_rfl)
          change wpList _ _ _ _ _ wr.drew
          go_wp2_with fail
          refine (C.out _).mono ?_
          rintro e w2 ⟨rfl, hb2⟩
          rw [hcv.out]
          have HB2 := Lib.hid (HBL.out.trans ((((Below.refl _ wr).drew).trans hb2 : Below wr.heap.size wr w2).mono HBL.out.size))
          clear x1 d1 y1 f1 hb2
          go_wp2
          go_roundw
          case rel => exact ⟨k + 1, by omega, by go_num, by rw [MK.out], HB2.out⟩
          case measure => simp [intOf]; omega
      · obtain rfl : k = l.length := by omega
        have HBX := Lib.hid (HB1.out.trans (hbel.mono HB1.out.size))
        go_wp2
        go_ret2
        exact ⟨by rw [LV.out]; rfl, HBX.out⟩
  · have E := Lib.hid (show shareV c n r = [] by unfold shareV; rw [if_neg h0])
    have LV := Lib.hid (show leV c n r = 0 by unfold leV; rw [if_neg h0])
    clear h0
    generalize shareE c n r = se at *
    go_enter Try.func46, Try.ntmps46
    go_wp2_with fail
    refine SH.out.mono ?_
    rintro e w1 ⟨v1, rfl, ho1, hb1⟩
    have H1 := ho1.at hl
    rw [E.out] at H1
    obtain ⟨oa, oc, rfl, _⟩ := H1
    have HB1 := Lib.hid hb1
    clear ho1 hb1
    go_wp2
    refine wp_loop_rounds 1 ?_
    rw [rounds_succ]
    go_wp2
    go_ret2
    exact ⟨by rw [LV.out]; rfl, HB1.out⟩

end Go.Proofs.Ytaakefjblldccaa
