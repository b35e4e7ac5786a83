/- Contracts of the reference: the number of levels, and the levels with a number. -/
import Derived.Test.YtikcpfpeoofppaaLawF
namespace Go.Proofs.Ytikcpfpeoofppaa
open Go.RowKit

theorem numK_int {t l : List Int} (ht : Tvl t) (hl : Lev t l) {k : Nat} (hk : k < t.length) : ((numK t l (k + 1) : Nat) : Int) = ((numK t l k : Nat) : Int) * (t.getD k 0 + 1) + l.getD k 0 := by
  have h1 := ht.holds _ (mem_getD hk)
  have h2 := hl.2 k hk
  show ((numK t l k * ((t.getD k 0).toNat + 1) + (l.getD k 0).toNat : Nat) : Int) = _
  rw [Int.natCast_add, Int.natCast_mul, Int.natCast_add, Int.toNat_of_nonneg (by omega), Int.toNat_of_nonneg (by omega)]
  rfl
theorem numK_bd {t l : List Int} (ht : Tvl t) (hl : Lev t l) {k : Nat} (hk : k ≤ t.length) : 0 ≤ ((numK t l k : Nat) : Int) ∧ ((numK t l k : Nat) : Int) ≤ 28561 := by
  have h1 := numK_lt hl k hk
  have h2 := sizeK_le ht k hk
  have h3 : 13 ^ k ≤ 13 ^ 4 := Nat.pow_le_pow_right (by omega) (Nat.le_trans hk ht.hi)
  omega
theorem num_bd {t l : List Int} (ht : Tvl t) (hl : Lev t l) : numR t l < sizeR t ∧ sizeR t ≤ 28561 := ⟨numR_lt hl, sizeR_le ht⟩

set_option maxHeartbeats 1000000 in
theorem rNumber_q (v y : Value) (t l : List Int) (w : World) (hv : IntsAt w v t) (hy : IntsAt w y l) (ht : Tvl t) (hl : Lev t l) :
    Calls Try.prog 72 #[v, y] w fun e w' => e = .returned (.int .i64 (numR t l : Nat)) ∧ ∃ q, w' = w.drewN q := by
  have hlo := ht.lo
  have hhi := ht.hi
  have hlen := hl.1
  obtain ⟨b, off, cap, rfl, hc⟩ := ints_cell hv (by omega)
  obtain ⟨b2, off2, cap2, rfl, hc2⟩ := ints_cell hy (by omega)
  rw [hlen]
  have HL := Lib.hid hlen
  have HC := Lib.hid hc
  have HC2 := Lib.hid hc2
  clear hlen hc hc2
  have R : Hid (numR t l = numK t l t.length) := Lib.hid rfl
  go_enter Try.func72, Try.ntmps72
  go_wp2
  go_loopw [5, 6] (fun n i wr => ∃ k : Nat, k ≤ t.length ∧ i = .int .i64 k ∧ n = .int .i64 (numK t l k : Nat) ∧ ∃ q, wr = w.drewN q) (fun _ i _ => t.length - (intOf i).toNat)
  case atStart => exact ⟨0, Nat.zero_le _, rfl, rfl, 0, rfl⟩
  case round =>
    obtain ⟨k, hk, rfl, rfl, q, hq⟩ := hrel
    have HQ := Lib.hid hq
    clear hq
    by_cases hlt : k < t.length
    · have x1 := keep_cell (show Below w.heap.size w wr by rw [HQ.out]; exact below_drewN (Below.refl _ _) _) (HC.out k hlt)
      have x2 := keep_cell (show Below w.heap.size w wr by rw [HQ.out]; exact below_drewN (Below.refl _ _) _) (HC2.out k (by rw [HL.out]; exact hlt))
      have S := Lib.hid (numK_int ht hl hlt)
      have hb := numK_bd ht hl hk
      have h1 := ht.holds _ (mem_getD hlt)
      have h2 := hl.2 k hlt
      generalize ((numK t l k : Nat) : Int) = N at *
      generalize t.getD k 0 = x at *
      generalize l.getD k 0 = z at *
      have m1 : 0 ≤ N * (x + 1) ∧ N * (x + 1) ≤ 28561 * 13 := ⟨Int.mul_nonneg (by omega) (by omega), Int.mul_le_mul (by omega) (by omega) (by omega) (by omega)⟩
      have hlt' : (k : Int) < (t.length : Int) := by omega
      go_wp2
      refine wp_region_quiet_lit (by kernel_rfl) (by kernel_rfl) ?_
      repeat (any_goals (first | go_big_quiet_step (fail) | quiet_step (fail)))
      all_goals (refine wpQuiet_nil ?_; intro _ hw'; obtain ⟨nq, hw''⟩ := hw'; subst hw'')
      all_goals go_wp2
      go_roundw
      case rel => exact ⟨k + 1, by omega, by go_num, by rw [S.out], _, by rw [HQ.out, World.drewN_drewN]⟩
      case measure => simp [intOf]; omega
    · obtain rfl : k = t.length := by omega
      go_wp2
      go_ret
      exact ⟨ret_i (by rw [R.out]), q, HQ.out⟩

theorem rNumber_any (v y : Value) (t l : List Int) (w : World) (hv : IntsAt w v t) (hy : IntsAt w y l) (ht : Tvl t) (hl : Lev t l) :
    Calls Try.prog 72 #[v, y] w fun e w' => e = .returned (.int .i64 (numR t l : Nat)) ∧ Below w.heap.size w w' := by
  refine (rNumber_q v y t l w hv hy ht hl).mono ?_
  rintro e w' ⟨rfl, q, rfl⟩
  exact ⟨rfl, below_drewN (Below.refl _ _) _⟩

theorem lev_drop {t l : List Int} (hl : Lev t l) {j : Nat} (hj : j < t.length) : (List.replicate (j + 1) 0 ++ l.drop (j + 1)).set j (l.getD j 0) = List.replicate j 0 ++ l.drop j := by
  have h := hl.1
  apply List.ext_getElem
  · simp; omega
  · intro i h1 h2
    simp only [List.length_set, List.length_append, List.length_replicate, List.length_drop] at h1
    rw [List.getElem_set]
    by_cases e : j = i
    · subst e
      rw [if_pos rfl]
      simp [List.getElem_append, List.getD_eq_getElem?_getD, show j < l.length by omega]
    · rw [if_neg e]
      by_cases hi : i < j
      · simp [List.getElem_append, hi, show i < j + 1 by omega]
      · simp [List.getElem_append, hi, show ¬ i < j + 1 by omega]
        congr 1
        omega

set_option maxRecDepth 100000 in
set_option maxHeartbeats 2000000 in
theorem rLevels_own (v : Value) (t l : List Int) (w : World) (hv : IntsAt w v t) (ht : Tvl t) (hl : Lev t l) :
    Calls Try.prog 84 #[v, .int .i64 (numR t l : Nat)] w fun e w' => e = .returned (.slice (some ⟨w.heap.size, 0, none⟩) t.length t.length) ∧ Own w.heap.size w' w.heap.size t.length l ∧ Below w.heap.size w w' := by
  have hlo := ht.lo
  have hhi := ht.hi
  have hll := hl.1
  obtain ⟨b, off, cap, rfl, hc⟩ := ints_cell hv (by omega)
  have HC := Lib.hid hc
  have HL := Lib.hid hll
  have R : Hid (numR t l = numK t l t.length) := Lib.hid rfl
  clear hv hc hll
  obtain ⟨j0, hj0, hy0, hy1, hy2⟩ := info_parts Try.infoInt
  go_enter Try.func84, Try.ntmps84
  go_wp2_with (at_make; refine wpList_make_full _ rfl _ _ 29 rfl w.heap.size 3 j0 (.int .i64 0) 1 Try.underlying29 hj0 hy0 hy1 .i64 .i64 _ _ t.length rfl rfl rfl rfl (by rw [hy2]; omega) (by unfold maxLen; omega) (Nat.le_refl _) ?_; intro w2 hown2 hgrow2)
  have hb2 : Below w.heap.size w w2 := (Below.refl _ _).grown hgrow2 (Nat.le_refl _) (fun k e => by cases e)
  have O : Own w.heap.size w2 w.heap.size t.length (zerosL t) := ⟨by
    have hzl : (zerosL t).length = t.length := by simp [zerosL]
    rw [made_zeros] at hown2
    rw [hzl]
    exact hown2, Nat.le_refl _⟩
  have hs2 : w.heap.size < w2.heap.size := World.block_lt_of_cell? _ _ (O.cell 0 (by simp [zerosL]; omega))
  have HO := Lib.hid O
  have HB2 := Lib.hid hb2
  clear hown2 hgrow2 O hb2
  go_wp2
  go_loopw [1, 6] (fun n i wr => ∃ k : Nat, ∃ z : Int, z = k - 1 ∧ k ≤ t.length ∧ i = .int .i64 z ∧ n = .int .i64 (numK t l k : Nat) ∧ Own w.heap.size wr w.heap.size t.length (List.replicate k 0 ++ l.drop k) ∧ Below w.heap.size w wr) (fun _ i _ => (intOf i + 1).toNat)
  case atStart =>
    refine ⟨t.length, (t.length : Int) - 1, rfl, Nat.le_refl _, rfl, by rw [R.out], ?_, HB2.out⟩
    rw [show l.drop t.length = [] by rw [← HL.out]; simp, List.append_nil]
    exact HO.out
  case round =>
    obtain ⟨k, z, hz, hk, rfl, rfl, OK, hbel⟩ := hrel
    rcases k with _ | k
    · obtain rfl : z = -1 := by omega
      rw [show List.replicate 0 (0 : Int) ++ l.drop 0 = l by simp] at OK
      have OO := Lib.hid OK
      clear OK hz
      go_wp2
      go_ret
      exact ⟨rfl, OO.out, hbel⟩
    · obtain rfl : z = (k : Int) := by omega
      clear hz
      have hlt : k < t.length := by omega
      have x1 := keep_cell HB2.out (HC.out k hlt)
      have hbb : b < w.heap.size := World.block_lt_of_cell? _ _ (HC.out k hlt)
      have x2 := (hbel.cell (p := ⟨b, off + k, none⟩) hbb).trans (HC.out k hlt)
      have k1 := OK.cell k (by simp; have := HL.out; omega)
      have f1 := OK.frozen k
      have OS := OK.set k (l.getD k 0)
      rw [lev_drop hl hlt] at OS
      have OS' := Lib.hid OS
      have S := Lib.hid (numK_int ht hl hlt)
      have hb := numK_bd ht hl (show k + 1 ≤ t.length from hk)
      have hbk := numK_bd ht hl (show k ≤ t.length by omega)
      have h1 := ht.holds _ (mem_getD hlt)
      have h2 := hl.2 k hlt
      have E1 : ((numK t l (k + 1) : Nat) : Int) % (t.getD k 0 + 1) = l.getD k 0 := by
        rw [S.out, Int.add_comm, Int.add_mul_emod_self_right]
        exact Int.emod_eq_of_lt (by omega) (by omega)
      have E2 : ((numK t l (k + 1) : Nat) : Int) / (t.getD k 0 + 1) = ((numK t l k : Nat) : Int) := by
        rw [S.out, Int.add_comm, Int.add_mul_ediv_right _ _ (by omega), Int.ediv_eq_zero_of_lt (by omega) (by omega), Int.zero_add]
      have HE1 := Lib.hid E1
      have HE2 := Lib.hid E2
      clear OS OK S E1 E2 x1
      generalize hN : ((numK t l (k + 1) : Nat) : Int) = N at *
      generalize hM : ((numK t l k : Nat) : Int) = M at *
      have HM := Lib.hid hM
      generalize t.getD k 0 = x at *
      generalize l.getD k 0 = y at *
      generalize (List.replicate (k + 1) 0 ++ l.drop (k + 1)).getD k 0 = y0 at *
      clear hN hM
      have hlt' : (k : Int) < (t.length : Int) := by omega
      have hx0 : ¬ (x + 1 = 0) := by omega
      have hx1 : ¬ (x + 1 = -1) := by omega
      go_wp2
      rw [HE1.out, HE2.out]
      go_roundw
      case rel => exact ⟨k, (k : Int) - 1, rfl, by omega, rfl, by rw [HM.out], OS'.out, hbel.setCell (Nat.le_refl _) _⟩
      case measure => simp [intOf]

theorem rLevels_any (v : Value) (t l : List Int) (w : World) (hv : IntsAt w v t) (ht : Tvl t) (hl : Lev t l) :
    Calls Try.prog 84 #[v, .int .i64 (numR t l : Nat)] w (GivesI l w) := by
  refine (rLevels_own v t l w hv ht hl).mono ?_
  rintro e w' ⟨rfl, ho, hb⟩
  exact ⟨_, rfl, ho.give hl.1 ht.hi, hb, fun i hi => by simp [Value.ownBlock] at hi; omega⟩

end Go.Proofs.Ytikcpfpeoofppaa
