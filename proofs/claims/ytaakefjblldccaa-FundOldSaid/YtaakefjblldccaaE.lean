/- Contracts: whether ratios add up to a whole number, of both. -/
import Derived.Test.YtaakefjblldccaaD
import Derived.Test.YtaakefjblldccaaSum
namespace Go.Proofs.Ytaakefjblldccaa
open Go.RowKit

/-- A slice value that reads as a list of ratios. -/
def RatsAt (w : World) (v : Value) (l : List Rat2) : Prop :=
  ∃ (a : Option Addr) (cap : Nat), v = .slice a l.length cap ∧ (l.length ≤ 9223372036854775807 ∧ l.length ≤ cap) ∧
    (0 < l.length → ∃ b off, a = some ⟨b, off, none⟩ ∧ ∀ j, j < l.length → w.cell? ⟨b, off + j * 2, none⟩ = some (.int .i64 (l.getD j (0, 0)).1) ∧
      w.cell? ⟨b, off + j * 2 + 1, none⟩ = some (.int .i64 (l.getD j (0, 0)).2))

theorem RatsAt.below {w w' : World} {v : Value} {l : List Rat2} (h : RatsAt w v l) (hb : Below w.heap.size w w') : RatsAt w' v l := by
  obtain ⟨a, cap, rfl, hl, h⟩ := h
  refine ⟨a, cap, rfl, hl, fun h0 => ?_⟩
  obtain ⟨b, off, ha, hc⟩ := h h0
  exact ⟨b, off, ha, fun j hj => ⟨keep_cell hb (hc j hj).1, keep_cell hb (hc j hj).2⟩⟩

theorem rats_cell {w : World} {v : Value} {l : List Rat2} (h : RatsAt w v l) (h0 : 0 < l.length) :
    ∃ b off cap, l.length ≤ cap ∧ v = .slice (some ⟨b, off, none⟩) l.length cap ∧ ∀ j, j < l.length → w.cell? ⟨b, off + j * 2, none⟩ = some (.int .i64 (l.getD j (0, 0)).1) ∧ w.cell? ⟨b, off + j * 2 + 1, none⟩ = some (.int .i64 (l.getD j (0, 0)).2) := by
  obtain ⟨a, cap, rfl, hl, hq⟩ := h
  obtain ⟨b, off, rfl, hc⟩ := hq h0
  exact ⟨b, off, cap, hl.2, rfl, hc⟩

theorem getD_mem2 {l : List Rat2} {k : Nat} (hk : k < l.length) : l.getD k (0, 0) ∈ l := by
  rw [List.getD_eq_getElem?_getD, List.getElem?_eq_getElem hk]; simp

theorem left_step (p s a x d : Int) : (s % p * d + x % p * (a % p) % p + p) % p = (s * d + x * a) % p := by
  rw [Int.add_emod_right, Int.add_emod, Int.emod_emod, ← Int.mul_emod, Int.mul_emod (s % p), Int.emod_emod, ← Int.mul_emod, ← Int.add_emod]
theorem all_step (p a d : Int) : a % p * d % p = a * d % p := by
  rw [Int.mul_emod, Int.emod_emod, ← Int.mul_emod]
theorem end_step (p n a : Int) : n % p * (a % p) % p = n * a % p := (Int.mul_emod n a p).symm

/-- One modulus agrees. -/
def okp (l : List Rat2) (n : Int) (p : Int) : Bool := (sumA l).1 % p == (n * (sumA l).2) % p


set_option maxRecDepth 100000 in
set_option maxHeartbeats 4000000 in
theorem adds_any (v : Value) (l : List Rat2) (n : Int) (w : World) (hv : RatsAt w v l) (hs : Small l) (h0 : 0 < l.length) (hl8 : l.length ≤ 8) (hn : 0 ≤ n ∧ n ≤ 8000) :
    Calls Try.prog 94 #[v, .int .i64 n] w fun e w' => e = .returned (.bool (primes.all fun p => okp l n p)) ∧ Below w.heap.size w w' := by
  obtain ⟨b, off, cap, _, rfl, hc⟩ := rats_cell hv h0
  have hS := Lib.hid hs
  clear hv hs
  go_enter Try.func94, Try.ntmps94
  go_wp2
  go_loopw [12] (fun i wr => ∃ k : Nat, k ≤ 6 ∧ i = .int .i64 k ∧ Hid (∀ j, j < k → okp l n (primes.getD j 0) = true) ∧ Below w.heap.size w wr) (fun i _ => 6 - (intOf i).toNat)
  case atStart => exact ⟨0, Nat.zero_le _, rfl, Lib.hid (fun j hj => by omega), Below.refl _ _⟩
  case round =>
    obtain ⟨k, hk, rfl, H, hbel⟩ := hrel
    by_cases hk0 : k = 0
    · subst hk0
      rw [show ((0 : Nat) : Int) = 0 from rfl]
      have i0 : ∀ w, (Instr.index 107 (.agg #[.int .i64 2147483647, .int .i64 2147483629, .int .i64 2147483587, .int .i64 2147483579, .int .i64 2147483563, .int .i64 2147483549]) (.int .i64 0)).run Try.prog w = .ok (.int .i64 2147483647) w := fun _ => by kernel_rfl
      go_wp2
      go_loopw [7, 8, 17] (fun lf al i wr2 => ∃ j : Nat, j ≤ l.length ∧ i = .int .i64 j ∧ lf = .int .i64 ((sumA (l.take j)).1 % 2147483647) ∧ al = .int .i64 ((sumA (l.take j)).2 % 2147483647) ∧ Below w.heap.size w wr2) (fun _ _ i _ => l.length - (intOf i).toNat)
      case atStart => exact ⟨0, Nat.zero_le _, rfl, rfl, rfl, hbel⟩
      case round =>
        obtain ⟨j, hj, rfl, rfl, rfl, hb2⟩ := hrel
        by_cases hlt : j < l.length
        · obtain ⟨x0, d0⟩ := hc j hlt
          have x1 := keep_cell hb2 x0
          have d1 := keep_cell hb2 d0
          have hs := hS.out _ (getD_mem2 hlt)
          have E := Lib.hid (sumA_snoc hlt)
          have hsz := hb2.size
          clear hc x0 d0
          generalize l.getD j (0, 0) = xd at *
          obtain ⟨x, d⟩ := xd
          simp only at x1 d1 hs E
          have L := Lib.hid (left_step 2147483647 (sumA (l.take j)).1 (sumA (l.take j)).2 x d)
          have A := Lib.hid (all_step 2147483647 (sumA (l.take j)).2 d)
          generalize hs1 : (sumA (l.take j)).1 % 2147483647 = s1 at *
          generalize ha1 : (sumA (l.take j)).2 % 2147483647 = a1 at *
          have r1 : 0 ≤ s1 ∧ s1 < 2147483647 := by omega
          have r2 : 0 ≤ a1 ∧ a1 < 2147483647 := by omega
          clear hs1 ha1
          have xp : 0 ≤ x % 2147483647 ∧ x % 2147483647 < 2147483647 := by omega
          have m1 : 0 ≤ s1 * d ∧ s1 * d ≤ 2147483647 * 1000000 := ⟨Int.mul_nonneg (by omega) (by omega), Int.mul_le_mul (by omega) (by omega) (by omega) (by omega)⟩
          have m2 : 0 ≤ x % 2147483647 * a1 ∧ x % 2147483647 * a1 ≤ 2147483647 * 2147483647 := ⟨Int.mul_nonneg (by omega) (by omega), Int.mul_le_mul (by omega) (by omega) (by omega) (by omega)⟩
          have m3 : 0 ≤ a1 * d ∧ a1 * d ≤ 2147483647 * 1000000 := ⟨Int.mul_nonneg (by omega) (by omega), Int.mul_le_mul (by omega) (by omega) (by omega) (by omega)⟩
          go_wp2
          refine wp_region_quiet_lit (by kernel_rfl) (by kernel_rfl) ?_
          repeat (any_goals (first | go_big_quiet_step (fail) | quiet_step (fail)))
          all_goals (refine wpQuiet_nil ?_; intro _ hw'; obtain ⟨nq, hw''⟩ := hw'; subst hw'')
          all_goals go_wp2
          go_roundw
          case rel => exact ⟨j + 1, by omega, by go_num, by rw [E.out]; exact congrArg (Value.int .i64) L.out, by rw [E.out]; exact congrArg (Value.int .i64) A.out, below_drewN (hb2.alloc hsz _) _⟩
          case measure => simp [intOf]; omega
        · have e : j = l.length := by omega
          subst e
          rw [List.take_length]
          have N := Lib.hid (end_step 2147483647 n (sumA l).2)
          have O : Hid (okp l n 2147483647 = ((sumA l).1 % 2147483647 == (n * (sumA l).2) % 2147483647)) := Lib.hid rfl
          generalize hs1 : (sumA l).1 % 2147483647 = s1 at *
          generalize ha1 : (sumA l).2 % 2147483647 = a1 at *
          have r1 : 0 ≤ s1 ∧ s1 < 2147483647 := by omega
          have r2 : 0 ≤ a1 ∧ a1 < 2147483647 := by omega
          clear hs1 ha1
          have np : 0 ≤ n % 2147483647 ∧ n % 2147483647 ≤ 8000 := by omega
          have m2 : 0 ≤ n % 2147483647 * a1 ∧ n % 2147483647 * a1 ≤ 8000 * 2147483647 := ⟨Int.mul_nonneg (by omega) (by omega), Int.mul_le_mul (by omega) (by omega) (by omega) (by omega)⟩
          cases hb : (s1 == (n % 2147483647 * a1 % 2147483647)) with
          | true =>
            have H2 : Hid (∀ j, j < 0 + 1 → okp l n (primes.getD j 0) = true) := Lib.hid (fun j hj => by
              rcases Nat.lt_succ_iff_lt_or_eq.1 hj with h | rfl
              · exact H.out j h
              · exact (O.out.trans (by rw [← N.out]; exact hb)))
            have hb' : (s1 != (n % 2147483647 * a1 % 2147483647)) = false := by simp [bne, hb]
            clear hb
            go_wp2
            go_roundw
            case rel => exact ⟨0 + 1, by omega, rfl, H2, hb2⟩
            case measure => simp [intOf]
          | false =>
            have R : Hid ((primes.all fun p => okp l n p) = false) := Lib.hid (by
              rw [List.all_eq_false]
              exact ⟨2147483647, by decide, by rw [show ((2147483647 : Nat) : Int) = 2147483647 from rfl, O.out, ← N.out, hb]; decide⟩)
            have hb' : (s1 != (n % 2147483647 * a1 % 2147483647)) = true := by simp [bne, hb]
            clear hb
            go_wp2
            go_ret
            exact ⟨ret_b R.out.symm, hb2⟩
    by_cases hk1 : k = 1
    · subst hk1
      rw [show ((1 : Nat) : Int) = 1 from rfl]
      have i0 : ∀ w, (Instr.index 107 (.agg #[.int .i64 2147483647, .int .i64 2147483629, .int .i64 2147483587, .int .i64 2147483579, .int .i64 2147483563, .int .i64 2147483549]) (.int .i64 1)).run Try.prog w = .ok (.int .i64 2147483629) w := fun _ => by kernel_rfl
      go_wp2
      go_loopw [7, 8, 17] (fun lf al i wr2 => ∃ j : Nat, j ≤ l.length ∧ i = .int .i64 j ∧ lf = .int .i64 ((sumA (l.take j)).1 % 2147483629) ∧ al = .int .i64 ((sumA (l.take j)).2 % 2147483629) ∧ Below w.heap.size w wr2) (fun _ _ i _ => l.length - (intOf i).toNat)
      case atStart => exact ⟨0, Nat.zero_le _, rfl, rfl, rfl, hbel⟩
      case round =>
        obtain ⟨j, hj, rfl, rfl, rfl, hb2⟩ := hrel
        by_cases hlt : j < l.length
        · obtain ⟨x0, d0⟩ := hc j hlt
          have x1 := keep_cell hb2 x0
          have d1 := keep_cell hb2 d0
          have hs := hS.out _ (getD_mem2 hlt)
          have E := Lib.hid (sumA_snoc hlt)
          have hsz := hb2.size
          clear hc x0 d0
          generalize l.getD j (0, 0) = xd at *
          obtain ⟨x, d⟩ := xd
          simp only at x1 d1 hs E
          have L := Lib.hid (left_step 2147483629 (sumA (l.take j)).1 (sumA (l.take j)).2 x d)
          have A := Lib.hid (all_step 2147483629 (sumA (l.take j)).2 d)
          generalize hs1 : (sumA (l.take j)).1 % 2147483629 = s1 at *
          generalize ha1 : (sumA (l.take j)).2 % 2147483629 = a1 at *
          have r1 : 0 ≤ s1 ∧ s1 < 2147483629 := by omega
          have r2 : 0 ≤ a1 ∧ a1 < 2147483629 := by omega
          clear hs1 ha1
          have xp : 0 ≤ x % 2147483629 ∧ x % 2147483629 < 2147483629 := by omega
          have m1 : 0 ≤ s1 * d ∧ s1 * d ≤ 2147483629 * 1000000 := ⟨Int.mul_nonneg (by omega) (by omega), Int.mul_le_mul (by omega) (by omega) (by omega) (by omega)⟩
          have m2 : 0 ≤ x % 2147483629 * a1 ∧ x % 2147483629 * a1 ≤ 2147483629 * 2147483629 := ⟨Int.mul_nonneg (by omega) (by omega), Int.mul_le_mul (by omega) (by omega) (by omega) (by omega)⟩
          have m3 : 0 ≤ a1 * d ∧ a1 * d ≤ 2147483629 * 1000000 := ⟨Int.mul_nonneg (by omega) (by omega), Int.mul_le_mul (by omega) (by omega) (by omega) (by omega)⟩
          go_wp2
          refine wp_region_quiet_lit (by kernel_rfl) (by kernel_rfl) ?_
          repeat (any_goals (first | go_big_quiet_step (fail) | quiet_step (fail)))
          all_goals (refine wpQuiet_nil ?_; intro _ hw'; obtain ⟨nq, hw''⟩ := hw'; subst hw'')
          all_goals go_wp2
          go_roundw
          case rel => exact ⟨j + 1, by omega, by go_num, by rw [E.out]; exact congrArg (Value.int .i64) L.out, by rw [E.out]; exact congrArg (Value.int .i64) A.out, below_drewN (hb2.alloc hsz _) _⟩
          case measure => simp [intOf]; omega
        · have e : j = l.length := by omega
          subst e
          rw [List.take_length]
          have N := Lib.hid (end_step 2147483629 n (sumA l).2)
          have O : Hid (okp l n 2147483629 = ((sumA l).1 % 2147483629 == (n * (sumA l).2) % 2147483629)) := Lib.hid rfl
          generalize hs1 : (sumA l).1 % 2147483629 = s1 at *
          generalize ha1 : (sumA l).2 % 2147483629 = a1 at *
          have r1 : 0 ≤ s1 ∧ s1 < 2147483629 := by omega
          have r2 : 0 ≤ a1 ∧ a1 < 2147483629 := by omega
          clear hs1 ha1
          have np : 0 ≤ n % 2147483629 ∧ n % 2147483629 ≤ 8000 := by omega
          have m2 : 0 ≤ n % 2147483629 * a1 ∧ n % 2147483629 * a1 ≤ 8000 * 2147483629 := ⟨Int.mul_nonneg (by omega) (by omega), Int.mul_le_mul (by omega) (by omega) (by omega) (by omega)⟩
          cases hb : (s1 == (n % 2147483629 * a1 % 2147483629)) with
          | true =>
            have H2 : Hid (∀ j, j < 1 + 1 → okp l n (primes.getD j 0) = true) := Lib.hid (fun j hj => by
              rcases Nat.lt_succ_iff_lt_or_eq.1 hj with h | rfl
              · exact H.out j h
              · exact (O.out.trans (by rw [← N.out]; exact hb)))
            have hb' : (s1 != (n % 2147483629 * a1 % 2147483629)) = false := by simp [bne, hb]
            clear hb
            go_wp2
            go_roundw
            case rel => exact ⟨1 + 1, by omega, rfl, H2, hb2⟩
            case measure => simp [intOf]
          | false =>
            have R : Hid ((primes.all fun p => okp l n p) = false) := Lib.hid (by
              rw [List.all_eq_false]
              exact ⟨2147483629, by decide, by rw [show ((2147483629 : Nat) : Int) = 2147483629 from rfl, O.out, ← N.out, hb]; decide⟩)
            have hb' : (s1 != (n % 2147483629 * a1 % 2147483629)) = true := by simp [bne, hb]
            clear hb
            go_wp2
            go_ret
            exact ⟨ret_b R.out.symm, hb2⟩
    by_cases hk2 : k = 2
    · subst hk2
      rw [show ((2 : Nat) : Int) = 2 from rfl]
      have i0 : ∀ w, (Instr.index 107 (.agg #[.int .i64 2147483647, .int .i64 2147483629, .int .i64 2147483587, .int .i64 2147483579, .int .i64 2147483563, .int .i64 2147483549]) (.int .i64 2)).run Try.prog w = .ok (.int .i64 2147483587) w := fun _ => by kernel_rfl
      go_wp2
      go_loopw [7, 8, 17] (fun lf al i wr2 => ∃ j : Nat, j ≤ l.length ∧ i = .int .i64 j ∧ lf = .int .i64 ((sumA (l.take j)).1 % 2147483587) ∧ al = .int .i64 ((sumA (l.take j)).2 % 2147483587) ∧ Below w.heap.size w wr2) (fun _ _ i _ => l.length - (intOf i).toNat)
      case atStart => exact ⟨0, Nat.zero_le _, rfl, rfl, rfl, hbel⟩
      case round =>
        obtain ⟨j, hj, rfl, rfl, rfl, hb2⟩ := hrel
        by_cases hlt : j < l.length
        · obtain ⟨x0, d0⟩ := hc j hlt
          have x1 := keep_cell hb2 x0
          have d1 := keep_cell hb2 d0
          have hs := hS.out _ (getD_mem2 hlt)
          have E := Lib.hid (sumA_snoc hlt)
          have hsz := hb2.size
          clear hc x0 d0
          generalize l.getD j (0, 0) = xd at *
          obtain ⟨x, d⟩ := xd
          simp only at x1 d1 hs E
          have L := Lib.hid (left_step 2147483587 (sumA (l.take j)).1 (sumA (l.take j)).2 x d)
          have A := Lib.hid (all_step 2147483587 (sumA (l.take j)).2 d)
          generalize hs1 : (sumA (l.take j)).1 % 2147483587 = s1 at *
          generalize ha1 : (sumA (l.take j)).2 % 2147483587 = a1 at *
          have r1 : 0 ≤ s1 ∧ s1 < 2147483587 := by omega
          have r2 : 0 ≤ a1 ∧ a1 < 2147483587 := by omega
          clear hs1 ha1
          have xp : 0 ≤ x % 2147483587 ∧ x % 2147483587 < 2147483587 := by omega
          have m1 : 0 ≤ s1 * d ∧ s1 * d ≤ 2147483587 * 1000000 := ⟨Int.mul_nonneg (by omega) (by omega), Int.mul_le_mul (by omega) (by omega) (by omega) (by omega)⟩
          have m2 : 0 ≤ x % 2147483587 * a1 ∧ x % 2147483587 * a1 ≤ 2147483587 * 2147483587 := ⟨Int.mul_nonneg (by omega) (by omega), Int.mul_le_mul (by omega) (by omega) (by omega) (by omega)⟩
          have m3 : 0 ≤ a1 * d ∧ a1 * d ≤ 2147483587 * 1000000 := ⟨Int.mul_nonneg (by omega) (by omega), Int.mul_le_mul (by omega) (by omega) (by omega) (by omega)⟩
          go_wp2
          refine wp_region_quiet_lit (by kernel_rfl) (by kernel_rfl) ?_
          repeat (any_goals (first | go_big_quiet_step (fail) | quiet_step (fail)))
          all_goals (refine wpQuiet_nil ?_; intro _ hw'; obtain ⟨nq, hw''⟩ := hw'; subst hw'')
          all_goals go_wp2
          go_roundw
          case rel => exact ⟨j + 1, by omega, by go_num, by rw [E.out]; exact congrArg (Value.int .i64) L.out, by rw [E.out]; exact congrArg (Value.int .i64) A.out, below_drewN (hb2.alloc hsz _) _⟩
          case measure => simp [intOf]; omega
        · have e : j = l.length := by omega
          subst e
          rw [List.take_length]
          have N := Lib.hid (end_step 2147483587 n (sumA l).2)
          have O : Hid (okp l n 2147483587 = ((sumA l).1 % 2147483587 == (n * (sumA l).2) % 2147483587)) := Lib.hid rfl
          generalize hs1 : (sumA l).1 % 2147483587 = s1 at *
          generalize ha1 : (sumA l).2 % 2147483587 = a1 at *
          have r1 : 0 ≤ s1 ∧ s1 < 2147483587 := by omega
          have r2 : 0 ≤ a1 ∧ a1 < 2147483587 := by omega
          clear hs1 ha1
          have np : 0 ≤ n % 2147483587 ∧ n % 2147483587 ≤ 8000 := by omega
          have m2 : 0 ≤ n % 2147483587 * a1 ∧ n % 2147483587 * a1 ≤ 8000 * 2147483587 := ⟨Int.mul_nonneg (by omega) (by omega), Int.mul_le_mul (by omega) (by omega) (by omega) (by omega)⟩
          cases hb : (s1 == (n % 2147483587 * a1 % 2147483587)) with
          | true =>
            have H2 : Hid (∀ j, j < 2 + 1 → okp l n (primes.getD j 0) = true) := Lib.hid (fun j hj => by
              rcases Nat.lt_succ_iff_lt_or_eq.1 hj with h | rfl
              · exact H.out j h
              · exact (O.out.trans (by rw [← N.out]; exact hb)))
            have hb' : (s1 != (n % 2147483587 * a1 % 2147483587)) = false := by simp [bne, hb]
            clear hb
            go_wp2
            go_roundw
            case rel => exact ⟨2 + 1, by omega, rfl, H2, hb2⟩
            case measure => simp [intOf]
          | false =>
            have R : Hid ((primes.all fun p => okp l n p) = false) := Lib.hid (by
              rw [List.all_eq_false]
              exact ⟨2147483587, by decide, by rw [show ((2147483587 : Nat) : Int) = 2147483587 from rfl, O.out, ← N.out, hb]; decide⟩)
            have hb' : (s1 != (n % 2147483587 * a1 % 2147483587)) = true := by simp [bne, hb]
            clear hb
            go_wp2
            go_ret
            exact ⟨ret_b R.out.symm, hb2⟩
    by_cases hk3 : k = 3
    · subst hk3
      rw [show ((3 : Nat) : Int) = 3 from rfl]
      have i0 : ∀ w, (Instr.index 107 (.agg #[.int .i64 2147483647, .int .i64 2147483629, .int .i64 2147483587, .int .i64 2147483579, .int .i64 2147483563, .int .i64 2147483549]) (.int .i64 3)).run Try.prog w = .ok (.int .i64 2147483579) w := fun _ => by kernel_rfl
      go_wp2
      go_loopw [7, 8, 17] (fun lf al i wr2 => ∃ j : Nat, j ≤ l.length ∧ i = .int .i64 j ∧ lf = .int .i64 ((sumA (l.take j)).1 % 2147483579) ∧ al = .int .i64 ((sumA (l.take j)).2 % 2147483579) ∧ Below w.heap.size w wr2) (fun _ _ i _ => l.length - (intOf i).toNat)
      case atStart => exact ⟨0, Nat.zero_le _, rfl, rfl, rfl, hbel⟩
      case round =>
        obtain ⟨j, hj, rfl, rfl, rfl, hb2⟩ := hrel
        by_cases hlt : j < l.length
        · obtain ⟨x0, d0⟩ := hc j hlt
          have x1 := keep_cell hb2 x0
          have d1 := keep_cell hb2 d0
          have hs := hS.out _ (getD_mem2 hlt)
          have E := Lib.hid (sumA_snoc hlt)
          have hsz := hb2.size
          clear hc x0 d0
          generalize l.getD j (0, 0) = xd at *
          obtain ⟨x, d⟩ := xd
          simp only at x1 d1 hs E
          have L := Lib.hid (left_step 2147483579 (sumA (l.take j)).1 (sumA (l.take j)).2 x d)
          have A := Lib.hid (all_step 2147483579 (sumA (l.take j)).2 d)
          generalize hs1 : (sumA (l.take j)).1 % 2147483579 = s1 at *
          generalize ha1 : (sumA (l.take j)).2 % 2147483579 = a1 at *
          have r1 : 0 ≤ s1 ∧ s1 < 2147483579 := by omega
          have r2 : 0 ≤ a1 ∧ a1 < 2147483579 := by omega
          clear hs1 ha1
          have xp : 0 ≤ x % 2147483579 ∧ x % 2147483579 < 2147483579 := by omega
          have m1 : 0 ≤ s1 * d ∧ s1 * d ≤ 2147483579 * 1000000 := ⟨Int.mul_nonneg (by omega) (by omega), Int.mul_le_mul (by omega) (by omega) (by omega) (by omega)⟩
          have m2 : 0 ≤ x % 2147483579 * a1 ∧ x % 2147483579 * a1 ≤ 2147483579 * 2147483579 := ⟨Int.mul_nonneg (by omega) (by omega), Int.mul_le_mul (by omega) (by omega) (by omega) (by omega)⟩
          have m3 : 0 ≤ a1 * d ∧ a1 * d ≤ 2147483579 * 1000000 := ⟨Int.mul_nonneg (by omega) (by omega), Int.mul_le_mul (by omega) (by omega) (by omega) (by omega)⟩
          go_wp2
          refine wp_region_quiet_lit (by kernel_rfl) (by kernel_rfl) ?_
          repeat (any_goals (first | go_big_quiet_step (fail) | quiet_step (fail)))
          all_goals (refine wpQuiet_nil ?_; intro _ hw'; obtain ⟨nq, hw''⟩ := hw'; subst hw'')
          all_goals go_wp2
          go_roundw
          case rel => exact ⟨j + 1, by omega, by go_num, by rw [E.out]; exact congrArg (Value.int .i64) L.out, by rw [E.out]; exact congrArg (Value.int .i64) A.out, below_drewN (hb2.alloc hsz _) _⟩
          case measure => simp [intOf]; omega
        · have e : j = l.length := by omega
          subst e
          rw [List.take_length]
          have N := Lib.hid (end_step 2147483579 n (sumA l).2)
          have O : Hid (okp l n 2147483579 = ((sumA l).1 % 2147483579 == (n * (sumA l).2) % 2147483579)) := Lib.hid rfl
          generalize hs1 : (sumA l).1 % 2147483579 = s1 at *
          generalize ha1 : (sumA l).2 % 2147483579 = a1 at *
          have r1 : 0 ≤ s1 ∧ s1 < 2147483579 := by omega
          have r2 : 0 ≤ a1 ∧ a1 < 2147483579 := by omega
          clear hs1 ha1
          have np : 0 ≤ n % 2147483579 ∧ n % 2147483579 ≤ 8000 := by omega
          have m2 : 0 ≤ n % 2147483579 * a1 ∧ n % 2147483579 * a1 ≤ 8000 * 2147483579 := ⟨Int.mul_nonneg (by omega) (by omega), Int.mul_le_mul (by omega) (by omega) (by omega) (by omega)⟩
          cases hb : (s1 == (n % 2147483579 * a1 % 2147483579)) with
          | true =>
            have H2 : Hid (∀ j, j < 3 + 1 → okp l n (primes.getD j 0) = true) := Lib.hid (fun j hj => by
              rcases Nat.lt_succ_iff_lt_or_eq.1 hj with h | rfl
              · exact H.out j h
              · exact (O.out.trans (by rw [← N.out]; exact hb)))
            have hb' : (s1 != (n % 2147483579 * a1 % 2147483579)) = false := by simp [bne, hb]
            clear hb
            go_wp2
            go_roundw
            case rel => exact ⟨3 + 1, by omega, rfl, H2, hb2⟩
            case measure => simp [intOf]
          | false =>
            have R : Hid ((primes.all fun p => okp l n p) = false) := Lib.hid (by
              rw [List.all_eq_false]
              exact ⟨2147483579, by decide, by rw [show ((2147483579 : Nat) : Int) = 2147483579 from rfl, O.out, ← N.out, hb]; decide⟩)
            have hb' : (s1 != (n % 2147483579 * a1 % 2147483579)) = true := by simp [bne, hb]
            clear hb
            go_wp2
            go_ret
            exact ⟨ret_b R.out.symm, hb2⟩
    by_cases hk4 : k = 4
    · subst hk4
      rw [show ((4 : Nat) : Int) = 4 from rfl]
      have i0 : ∀ w, (Instr.index 107 (.agg #[.int .i64 2147483647, .int .i64 2147483629, .int .i64 2147483587, .int .i64 2147483579, .int .i64 2147483563, .int .i64 2147483549]) (.int .i64 4)).run Try.prog w = .ok (.int .i64 2147483563) w := fun _ => by kernel_rfl
      go_wp2
      go_loopw [7, 8, 17] (fun lf al i wr2 => ∃ j : Nat, j ≤ l.length ∧ i = .int .i64 j ∧ lf = .int .i64 ((sumA (l.take j)).1 % 2147483563) ∧ al = .int .i64 ((sumA (l.take j)).2 % 2147483563) ∧ Below w.heap.size w wr2) (fun _ _ i _ => l.length - (intOf i).toNat)
      case atStart => exact ⟨0, Nat.zero_le _, rfl, rfl, rfl, hbel⟩
      case round =>
        obtain ⟨j, hj, rfl, rfl, rfl, hb2⟩ := hrel
        by_cases hlt : j < l.length
        · obtain ⟨x0, d0⟩ := hc j hlt
          have x1 := keep_cell hb2 x0
          have d1 := keep_cell hb2 d0
          have hs := hS.out _ (getD_mem2 hlt)
          have E := Lib.hid (sumA_snoc hlt)
          have hsz := hb2.size
          clear hc x0 d0
          generalize l.getD j (0, 0) = xd at *
          obtain ⟨x, d⟩ := xd
          simp only at x1 d1 hs E
          have L := Lib.hid (left_step 2147483563 (sumA (l.take j)).1 (sumA (l.take j)).2 x d)
          have A := Lib.hid (all_step 2147483563 (sumA (l.take j)).2 d)
          generalize hs1 : (sumA (l.take j)).1 % 2147483563 = s1 at *
          generalize ha1 : (sumA (l.take j)).2 % 2147483563 = a1 at *
          have r1 : 0 ≤ s1 ∧ s1 < 2147483563 := by omega
          have r2 : 0 ≤ a1 ∧ a1 < 2147483563 := by omega
          clear hs1 ha1
          have xp : 0 ≤ x % 2147483563 ∧ x % 2147483563 < 2147483563 := by omega
          have m1 : 0 ≤ s1 * d ∧ s1 * d ≤ 2147483563 * 1000000 := ⟨Int.mul_nonneg (by omega) (by omega), Int.mul_le_mul (by omega) (by omega) (by omega) (by omega)⟩
          have m2 : 0 ≤ x % 2147483563 * a1 ∧ x % 2147483563 * a1 ≤ 2147483563 * 2147483563 := ⟨Int.mul_nonneg (by omega) (by omega), Int.mul_le_mul (by omega) (by omega) (by omega) (by omega)⟩
          have m3 : 0 ≤ a1 * d ∧ a1 * d ≤ 2147483563 * 1000000 := ⟨Int.mul_nonneg (by omega) (by omega), Int.mul_le_mul (by omega) (by omega) (by omega) (by omega)⟩
          go_wp2
          refine wp_region_quiet_lit (by kernel_rfl) (by kernel_rfl) ?_
          repeat (any_goals (first | go_big_quiet_step (fail) | quiet_step (fail)))
          all_goals (refine wpQuiet_nil ?_; intro _ hw'; obtain ⟨nq, hw''⟩ := hw'; subst hw'')
          all_goals go_wp2
          go_roundw
          case rel => exact ⟨j + 1, by omega, by go_num, by rw [E.out]; exact congrArg (Value.int .i64) L.out, by rw [E.out]; exact congrArg (Value.int .i64) A.out, below_drewN (hb2.alloc hsz _) _⟩
          case measure => simp [intOf]; omega
        · have e : j = l.length := by omega
          subst e
          rw [List.take_length]
          have N := Lib.hid (end_step 2147483563 n (sumA l).2)
          have O : Hid (okp l n 2147483563 = ((sumA l).1 % 2147483563 == (n * (sumA l).2) % 2147483563)) := Lib.hid rfl
          generalize hs1 : (sumA l).1 % 2147483563 = s1 at *
          generalize ha1 : (sumA l).2 % 2147483563 = a1 at *
          have r1 : 0 ≤ s1 ∧ s1 < 2147483563 := by omega
          have r2 : 0 ≤ a1 ∧ a1 < 2147483563 := by omega
          clear hs1 ha1
          have np : 0 ≤ n % 2147483563 ∧ n % 2147483563 ≤ 8000 := by omega
          have m2 : 0 ≤ n % 2147483563 * a1 ∧ n % 2147483563 * a1 ≤ 8000 * 2147483563 := ⟨Int.mul_nonneg (by omega) (by omega), Int.mul_le_mul (by omega) (by omega) (by omega) (by omega)⟩
          cases hb : (s1 == (n % 2147483563 * a1 % 2147483563)) with
          | true =>
            have H2 : Hid (∀ j, j < 4 + 1 → okp l n (primes.getD j 0) = true) := Lib.hid (fun j hj => by
              rcases Nat.lt_succ_iff_lt_or_eq.1 hj with h | rfl
              · exact H.out j h
              · exact (O.out.trans (by rw [← N.out]; exact hb)))
            have hb' : (s1 != (n % 2147483563 * a1 % 2147483563)) = false := by simp [bne, hb]
            clear hb
            go_wp2
            go_roundw
            case rel => exact ⟨4 + 1, by omega, rfl, H2, hb2⟩
            case measure => simp [intOf]
          | false =>
            have R : Hid ((primes.all fun p => okp l n p) = false) := Lib.hid (by
              rw [List.all_eq_false]
              exact ⟨2147483563, by decide, by rw [show ((2147483563 : Nat) : Int) = 2147483563 from rfl, O.out, ← N.out, hb]; decide⟩)
            have hb' : (s1 != (n % 2147483563 * a1 % 2147483563)) = true := by simp [bne, hb]
            clear hb
            go_wp2
            go_ret
            exact ⟨ret_b R.out.symm, hb2⟩
    by_cases hk5 : k = 5
    · subst hk5
      rw [show ((5 : Nat) : Int) = 5 from rfl]
      have i0 : ∀ w, (Instr.index 107 (.agg #[.int .i64 2147483647, .int .i64 2147483629, .int .i64 2147483587, .int .i64 2147483579, .int .i64 2147483563, .int .i64 2147483549]) (.int .i64 5)).run Try.prog w = .ok (.int .i64 2147483549) w := fun _ => by kernel_rfl
      go_wp2
      go_loopw [7, 8, 17] (fun lf al i wr2 => ∃ j : Nat, j ≤ l.length ∧ i = .int .i64 j ∧ lf = .int .i64 ((sumA (l.take j)).1 % 2147483549) ∧ al = .int .i64 ((sumA (l.take j)).2 % 2147483549) ∧ Below w.heap.size w wr2) (fun _ _ i _ => l.length - (intOf i).toNat)
      case atStart => exact ⟨0, Nat.zero_le _, rfl, rfl, rfl, hbel⟩
      case round =>
        obtain ⟨j, hj, rfl, rfl, rfl, hb2⟩ := hrel
        by_cases hlt : j < l.length
        · obtain ⟨x0, d0⟩ := hc j hlt
          have x1 := keep_cell hb2 x0
          have d1 := keep_cell hb2 d0
          have hs := hS.out _ (getD_mem2 hlt)
          have E := Lib.hid (sumA_snoc hlt)
          have hsz := hb2.size
          clear hc x0 d0
          generalize l.getD j (0, 0) = xd at *
          obtain ⟨x, d⟩ := xd
          simp only at x1 d1 hs E
          have L := Lib.hid (left_step 2147483549 (sumA (l.take j)).1 (sumA (l.take j)).2 x d)
          have A := Lib.hid (all_step 2147483549 (sumA (l.take j)).2 d)
          generalize hs1 : (sumA (l.take j)).1 % 2147483549 = s1 at *
          generalize ha1 : (sumA (l.take j)).2 % 2147483549 = a1 at *
          have r1 : 0 ≤ s1 ∧ s1 < 2147483549 := by omega
          have r2 : 0 ≤ a1 ∧ a1 < 2147483549 := by omega
          clear hs1 ha1
          have xp : 0 ≤ x % 2147483549 ∧ x % 2147483549 < 2147483549 := by omega
          have m1 : 0 ≤ s1 * d ∧ s1 * d ≤ 2147483549 * 1000000 := ⟨Int.mul_nonneg (by omega) (by omega), Int.mul_le_mul (by omega) (by omega) (by omega) (by omega)⟩
          have m2 : 0 ≤ x % 2147483549 * a1 ∧ x % 2147483549 * a1 ≤ 2147483549 * 2147483549 := ⟨Int.mul_nonneg (by omega) (by omega), Int.mul_le_mul (by omega) (by omega) (by omega) (by omega)⟩
          have m3 : 0 ≤ a1 * d ∧ a1 * d ≤ 2147483549 * 1000000 := ⟨Int.mul_nonneg (by omega) (by omega), Int.mul_le_mul (by omega) (by omega) (by omega) (by omega)⟩
          go_wp2
          refine wp_region_quiet_lit (by kernel_rfl) (by kernel_rfl) ?_
          repeat (any_goals (first | go_big_quiet_step (fail) | quiet_step (fail)))
          all_goals (refine wpQuiet_nil ?_; intro _ hw'; obtain ⟨nq, hw''⟩ := hw'; subst hw'')
          all_goals go_wp2
          go_roundw
          case rel => exact ⟨j + 1, by omega, by go_num, by rw [E.out]; exact congrArg (Value.int .i64) L.out, by rw [E.out]; exact congrArg (Value.int .i64) A.out, below_drewN (hb2.alloc hsz _) _⟩
          case measure => simp [intOf]; omega
        · have e : j = l.length := by omega
          subst e
          rw [List.take_length]
          have N := Lib.hid (end_step 2147483549 n (sumA l).2)
          have O : Hid (okp l n 2147483549 = ((sumA l).1 % 2147483549 == (n * (sumA l).2) % 2147483549)) := Lib.hid rfl
          generalize hs1 : (sumA l).1 % 2147483549 = s1 at *
          generalize ha1 : (sumA l).2 % 2147483549 = a1 at *
          have r1 : 0 ≤ s1 ∧ s1 < 2147483549 := by omega
          have r2 : 0 ≤ a1 ∧ a1 < 2147483549 := by omega
          clear hs1 ha1
          have np : 0 ≤ n % 2147483549 ∧ n % 2147483549 ≤ 8000 := by omega
          have m2 : 0 ≤ n % 2147483549 * a1 ∧ n % 2147483549 * a1 ≤ 8000 * 2147483549 := ⟨Int.mul_nonneg (by omega) (by omega), Int.mul_le_mul (by omega) (by omega) (by omega) (by omega)⟩
          cases hb : (s1 == (n % 2147483549 * a1 % 2147483549)) with
          | true =>
            have H2 : Hid (∀ j, j < 5 + 1 → okp l n (primes.getD j 0) = true) := Lib.hid (fun j hj => by
              rcases Nat.lt_succ_iff_lt_or_eq.1 hj with h | rfl
              · exact H.out j h
              · exact (O.out.trans (by rw [← N.out]; exact hb)))
            have hb' : (s1 != (n % 2147483549 * a1 % 2147483549)) = false := by simp [bne, hb]
            clear hb
            go_wp2
            go_roundw
            case rel => exact ⟨5 + 1, by omega, rfl, H2, hb2⟩
            case measure => simp [intOf]
          | false =>
            have R : Hid ((primes.all fun p => okp l n p) = false) := Lib.hid (by
              rw [List.all_eq_false]
              exact ⟨2147483549, by decide, by rw [show ((2147483549 : Nat) : Int) = 2147483549 from rfl, O.out, ← N.out, hb]; decide⟩)
            have hb' : (s1 != (n % 2147483549 * a1 % 2147483549)) = true := by simp [bne, hb]
            clear hb
            go_wp2
            go_ret
            exact ⟨ret_b R.out.symm, hb2⟩
    have e6 : k = 6 := by omega
    subst e6
    rw [show ((6 : Nat) : Int) = 6 from rfl]
    have R : Hid ((primes.all fun p => okp l n p) = true) := Lib.hid (by
      rw [List.all_eq_true]
      intro p hp
      obtain ⟨j, hj, rfl⟩ := List.getElem_of_mem hp
      have := H.out j hj
      rwa [List.getD_eq_getElem?_getD, List.getElem?_eq_getElem hj] at this)
    go_wp2
    go_ret
    exact ⟨ret_b R.out.symm, hbel⟩

end Go.Proofs.Ytaakefjblldccaa
