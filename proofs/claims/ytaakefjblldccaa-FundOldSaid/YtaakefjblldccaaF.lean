/- Contract: whether ratios add up, of the reference. -/
import Derived.Test.YtaakefjblldccaaE
namespace Go.Proofs.Ytaakefjblldccaa
open Go.RowKit

theorem mid_step (p s a x d : Int) : (s % p * d + x * (a % p)) % p = (s * d + x * a) % p := by
  rw [Int.add_emod, Int.mul_emod (s % p), Int.emod_emod, ← Int.mul_emod, Int.mul_emod x (a % p), Int.emod_emod, ← Int.mul_emod, ← Int.add_emod]
theorem fin_step (p n a : Int) : n * (a % p) % p = n * a % p := by
  rw [Int.mul_emod, Int.emod_emod, ← Int.mul_emod]

theorem times_q (a b m : Int) (w : World) (q : Nat) (ha : 0 ≤ a) (hb : 0 ≤ b) (hm : 1 ≤ m) (hm2 : m ≤ 2305843009213693953) :
    Calls Try.prog 113 #[.int .i64 a, .int .i64 b, .int .i64 m] (w.drewN q) fun e w'' => e = .returned (.int .i64 (a * b % m)) ∧ ∃ k, w'' = w.drewN k :=
  Calls.quiet_of_same ((times_any a b m (w.drewN q) ha hb hm hm2).mono fun _ _ h => ⟨h.1, h.2.symm⟩)


set_option maxRecDepth 100000 in
set_option maxHeartbeats 4000000 in
theorem addsUp_any (v : Value) (l : List Rat2) (n : Int) (w : World) (hv : RatsAt w v l) (hs : Small l) (h0 : 0 < l.length) (hl8 : l.length ≤ 8) (hn : 0 ≤ n ∧ n ≤ 8000) :
    Calls Try.prog 95 #[v, .int .i64 n] w fun e w' => e = .returned (.bool (modes.all fun p => okp l n p)) ∧ Below w.heap.size w w' := by
  obtain ⟨b, off, cap, _, rfl, hc⟩ := rats_cell hv h0
  have hS := Lib.hid hs
  clear hv hs
  go_enter Try.func95, Try.ntmps95
  go_wp2
  go_loopw [5] (fun i wr => ∃ k : Nat, k ≤ 3 ∧ i = .int .i64 ((k : Int) - 1) ∧ Hid (∀ j, j < k → okp l n (modes.getD j 0) = true) ∧ Below w.heap.size w wr) (fun i _ => (2 - intOf i).toNat)
  case atStart => exact ⟨0, by omega, rfl, Lib.hid (fun j hj => by omega), Below.refl _ _⟩
  case round =>
    obtain ⟨k, hk, rfl, H, hbel⟩ := hrel
    by_cases hk0 : k = 0
    · subst hk0
      rw [show (((0 : Nat) : Int) - 1) = -1 from rfl]
      go_wp2
      go_loopw [7, 8, 9] (fun lf al i wr2 => ∃ j : Nat, j ≤ l.length ∧ i = .int .i64 j ∧ lf = .int .i64 ((sumA (l.take j)).1 % 2305843009213693951) ∧ al = .int .i64 ((sumA (l.take j)).2 % 2305843009213693951) ∧ Below w.heap.size w wr2) (fun _ _ i _ => l.length - (intOf i).toNat)
      case atStart => exact ⟨0, Nat.zero_le _, rfl, rfl, rfl, hbel⟩
      case round =>
        obtain ⟨j, hj, rfl, rfl, rfl, hb2⟩ := hrel
        by_cases hlt : j < l.length
        · obtain ⟨x0, d0⟩ := hc j hlt
          have x1 := keep_cell hb2 x0
          have d1 := keep_cell hb2 d0
          have hs := hS.out _ (getD_mem2 hlt)
          have E := Lib.hid (sumA_snoc hlt)
          clear hc x0 d0
          generalize l.getD j (0, 0) = xd at *
          obtain ⟨x, d⟩ := xd
          simp only at x1 d1 hs E
          have L := Lib.hid (mid_step 2305843009213693951 (sumA (l.take j)).1 (sumA (l.take j)).2 x d)
          have A := Lib.hid (all_step 2305843009213693951 (sumA (l.take j)).2 d)
          generalize hs1 : (sumA (l.take j)).1 % 2305843009213693951 = s1 at *
          generalize ha1 : (sumA (l.take j)).2 % 2305843009213693951 = a1 at *
          have r1 : 0 ≤ s1 ∧ s1 < 2305843009213693951 := by omega
          have r2 : 0 ≤ a1 ∧ a1 < 2305843009213693951 := by omega
          clear hs1 ha1
          have H1 := fun q => times_q s1 d 2305843009213693951 wr q (by omega) (by omega) (by omega) (by omega)
          have H2 := fun q => times_q x a1 2305843009213693951 wr q (by omega) (by omega) (by omega) (by omega)
          have v1 : 0 ≤ s1 * d % 2305843009213693951 ∧ s1 * d % 2305843009213693951 < 2305843009213693951 := by omega
          have v2 : 0 ≤ x * a1 % 2305843009213693951 ∧ x * a1 % 2305843009213693951 < 2305843009213693951 := by omega
          have H1' := Lib.hid H1
          have H2' := Lib.hid H2
          clear H1 H2
          go_wp2
          refine wp_region_quiet_lit (by kernel_rfl) (by kernel_rfl) ?_
          repeat (any_goals (first | go_big_quiet_step ((go_at_call 113; first | with_reducible exact H1'.out _ | with_reducible exact H2'.out _)) | quiet_step (fail)))
          all_goals (refine wpQuiet_nil ?_; intro _ hw'; obtain ⟨nq, hw''⟩ := hw'; subst hw'')
          all_goals go_wp2_with fail
          refine (times_any a1 d 2305843009213693951 _ (by omega) (by omega) (by omega) (by omega)).mono ?_
          rintro e w' ⟨rfl, rfl⟩
          go_wp2
          go_roundw
          case rel => exact ⟨j + 1, by omega, by go_num, by rw [E.out]; exact congrArg (Value.int .i64) L.out, by rw [E.out]; exact congrArg (Value.int .i64) A.out, below_drewN hb2 _⟩
          case measure => simp [intOf]; omega
        · have e : j = l.length := by omega
          subst e
          rw [List.take_length]
          have N := Lib.hid (fin_step 2305843009213693951 n (sumA l).2)
          have O : Hid (okp l n 2305843009213693951 = ((sumA l).1 % 2305843009213693951 == (n * (sumA l).2) % 2305843009213693951)) := Lib.hid rfl
          generalize hs1 : (sumA l).1 % 2305843009213693951 = s1 at *
          generalize ha1 : (sumA l).2 % 2305843009213693951 = a1 at *
          have r1 : 0 ≤ s1 ∧ s1 < 2305843009213693951 := by omega
          have r2 : 0 ≤ a1 ∧ a1 < 2305843009213693951 := by omega
          clear hs1 ha1
          cases hb : (s1 == (n * a1 % 2305843009213693951)) with
          | true =>
            have H2 : Hid (∀ j, j < 0 + 1 → okp l n (modes.getD j 0) = true) := Lib.hid (fun j hj => by
              rcases Nat.lt_succ_iff_lt_or_eq.1 hj with h | rfl
              · exact H.out j h
              · exact (O.out.trans (by rw [← N.out]; exact hb)))
            have hb' : (s1 != (n * a1 % 2305843009213693951)) = false := by simp [bne, hb]
            clear hb
            go_wp2_with fail
            refine (times_any n a1 2305843009213693951 _ (by omega) (by omega) (by omega) (by omega)).mono ?_
            rintro e w' ⟨rfl, rfl⟩
            go_wp2
            go_roundw
            case rel => exact ⟨0 + 1, by omega, rfl, H2, hb2⟩
            case measure => simp [intOf]
          | false =>
            have R : Hid ((modes.all fun p => okp l n p) = false) := Lib.hid (by
              rw [List.all_eq_false]
              exact ⟨2305843009213693951, by decide, by rw [show ((2305843009213693951 : Nat) : Int) = 2305843009213693951 from rfl, O.out, ← N.out, hb]; decide⟩)
            have hb' : (s1 != (n * a1 % 2305843009213693951)) = true := by simp [bne, hb]
            clear hb
            go_wp2_with fail
            refine (times_any n a1 2305843009213693951 _ (by omega) (by omega) (by omega) (by omega)).mono ?_
            rintro e w' ⟨rfl, rfl⟩
            go_wp2
            go_ret
            exact ⟨ret_b R.out.symm, hb2⟩
    by_cases hk1 : k = 1
    · subst hk1
      rw [show (((1 : Nat) : Int) - 1) = 0 from rfl]
      go_wp2
      go_loopw [7, 8, 9] (fun lf al i wr2 => ∃ j : Nat, j ≤ l.length ∧ i = .int .i64 j ∧ lf = .int .i64 ((sumA (l.take j)).1 % 2305843009213693952) ∧ al = .int .i64 ((sumA (l.take j)).2 % 2305843009213693952) ∧ Below w.heap.size w wr2) (fun _ _ i _ => l.length - (intOf i).toNat)
      case atStart => exact ⟨0, Nat.zero_le _, rfl, rfl, rfl, hbel⟩
      case round =>
        obtain ⟨j, hj, rfl, rfl, rfl, hb2⟩ := hrel
        by_cases hlt : j < l.length
        · obtain ⟨x0, d0⟩ := hc j hlt
          have x1 := keep_cell hb2 x0
          have d1 := keep_cell hb2 d0
          have hs := hS.out _ (getD_mem2 hlt)
          have E := Lib.hid (sumA_snoc hlt)
          clear hc x0 d0
          generalize l.getD j (0, 0) = xd at *
          obtain ⟨x, d⟩ := xd
          simp only at x1 d1 hs E
          have L := Lib.hid (mid_step 2305843009213693952 (sumA (l.take j)).1 (sumA (l.take j)).2 x d)
          have A := Lib.hid (all_step 2305843009213693952 (sumA (l.take j)).2 d)
          generalize hs1 : (sumA (l.take j)).1 % 2305843009213693952 = s1 at *
          generalize ha1 : (sumA (l.take j)).2 % 2305843009213693952 = a1 at *
          have r1 : 0 ≤ s1 ∧ s1 < 2305843009213693952 := by omega
          have r2 : 0 ≤ a1 ∧ a1 < 2305843009213693952 := by omega
          clear hs1 ha1
          have H1 := fun q => times_q s1 d 2305843009213693952 wr q (by omega) (by omega) (by omega) (by omega)
          have H2 := fun q => times_q x a1 2305843009213693952 wr q (by omega) (by omega) (by omega) (by omega)
          have v1 : 0 ≤ s1 * d % 2305843009213693952 ∧ s1 * d % 2305843009213693952 < 2305843009213693952 := by omega
          have v2 : 0 ≤ x * a1 % 2305843009213693952 ∧ x * a1 % 2305843009213693952 < 2305843009213693952 := by omega
          have H1' := Lib.hid H1
          have H2' := Lib.hid H2
          clear H1 H2
          go_wp2
          refine wp_region_quiet_lit (by kernel_rfl) (by kernel_rfl) ?_
          repeat (any_goals (first | go_big_quiet_step ((go_at_call 113; first | with_reducible exact H1'.out _ | with_reducible exact H2'.out _)) | quiet_step (fail)))
          all_goals (refine wpQuiet_nil ?_; intro _ hw'; obtain ⟨nq, hw''⟩ := hw'; subst hw'')
          all_goals go_wp2_with fail
          refine (times_any a1 d 2305843009213693952 _ (by omega) (by omega) (by omega) (by omega)).mono ?_
          rintro e w' ⟨rfl, rfl⟩
          go_wp2
          go_roundw
          case rel => exact ⟨j + 1, by omega, by go_num, by rw [E.out]; exact congrArg (Value.int .i64) L.out, by rw [E.out]; exact congrArg (Value.int .i64) A.out, below_drewN hb2 _⟩
          case measure => simp [intOf]; omega
        · have e : j = l.length := by omega
          subst e
          rw [List.take_length]
          have N := Lib.hid (fin_step 2305843009213693952 n (sumA l).2)
          have O : Hid (okp l n 2305843009213693952 = ((sumA l).1 % 2305843009213693952 == (n * (sumA l).2) % 2305843009213693952)) := Lib.hid rfl
          generalize hs1 : (sumA l).1 % 2305843009213693952 = s1 at *
          generalize ha1 : (sumA l).2 % 2305843009213693952 = a1 at *
          have r1 : 0 ≤ s1 ∧ s1 < 2305843009213693952 := by omega
          have r2 : 0 ≤ a1 ∧ a1 < 2305843009213693952 := by omega
          clear hs1 ha1
          cases hb : (s1 == (n * a1 % 2305843009213693952)) with
          | true =>
            have H2 : Hid (∀ j, j < 1 + 1 → okp l n (modes.getD j 0) = true) := Lib.hid (fun j hj => by
              rcases Nat.lt_succ_iff_lt_or_eq.1 hj with h | rfl
              · exact H.out j h
              · exact (O.out.trans (by rw [← N.out]; exact hb)))
            have hb' : (s1 != (n * a1 % 2305843009213693952)) = false := by simp [bne, hb]
            clear hb
            go_wp2_with fail
            refine (times_any n a1 2305843009213693952 _ (by omega) (by omega) (by omega) (by omega)).mono ?_
            rintro e w' ⟨rfl, rfl⟩
            go_wp2
            go_roundw
            case rel => exact ⟨1 + 1, by omega, rfl, H2, hb2⟩
            case measure => simp [intOf]
          | false =>
            have R : Hid ((modes.all fun p => okp l n p) = false) := Lib.hid (by
              rw [List.all_eq_false]
              exact ⟨2305843009213693952, by decide, by rw [show ((2305843009213693952 : Nat) : Int) = 2305843009213693952 from rfl, O.out, ← N.out, hb]; decide⟩)
            have hb' : (s1 != (n * a1 % 2305843009213693952)) = true := by simp [bne, hb]
            clear hb
            go_wp2_with fail
            refine (times_any n a1 2305843009213693952 _ (by omega) (by omega) (by omega) (by omega)).mono ?_
            rintro e w' ⟨rfl, rfl⟩
            go_wp2
            go_ret
            exact ⟨ret_b R.out.symm, hb2⟩
    by_cases hk2 : k = 2
    · subst hk2
      rw [show (((2 : Nat) : Int) - 1) = 1 from rfl]
      go_wp2
      go_loopw [7, 8, 9] (fun lf al i wr2 => ∃ j : Nat, j ≤ l.length ∧ i = .int .i64 j ∧ lf = .int .i64 ((sumA (l.take j)).1 % 2305843009213693953) ∧ al = .int .i64 ((sumA (l.take j)).2 % 2305843009213693953) ∧ Below w.heap.size w wr2) (fun _ _ i _ => l.length - (intOf i).toNat)
      case atStart => exact ⟨0, Nat.zero_le _, rfl, rfl, rfl, hbel⟩
      case round =>
        obtain ⟨j, hj, rfl, rfl, rfl, hb2⟩ := hrel
        by_cases hlt : j < l.length
        · obtain ⟨x0, d0⟩ := hc j hlt
          have x1 := keep_cell hb2 x0
          have d1 := keep_cell hb2 d0
          have hs := hS.out _ (getD_mem2 hlt)
          have E := Lib.hid (sumA_snoc hlt)
          clear hc x0 d0
          generalize l.getD j (0, 0) = xd at *
          obtain ⟨x, d⟩ := xd
          simp only at x1 d1 hs E
          have L := Lib.hid (mid_step 2305843009213693953 (sumA (l.take j)).1 (sumA (l.take j)).2 x d)
          have A := Lib.hid (all_step 2305843009213693953 (sumA (l.take j)).2 d)
          generalize hs1 : (sumA (l.take j)).1 % 2305843009213693953 = s1 at *
          generalize ha1 : (sumA (l.take j)).2 % 2305843009213693953 = a1 at *
          have r1 : 0 ≤ s1 ∧ s1 < 2305843009213693953 := by omega
          have r2 : 0 ≤ a1 ∧ a1 < 2305843009213693953 := by omega
          clear hs1 ha1
          have H1 := fun q => times_q s1 d 2305843009213693953 wr q (by omega) (by omega) (by omega) (by omega)
          have H2 := fun q => times_q x a1 2305843009213693953 wr q (by omega) (by omega) (by omega) (by omega)
          have v1 : 0 ≤ s1 * d % 2305843009213693953 ∧ s1 * d % 2305843009213693953 < 2305843009213693953 := by omega
          have v2 : 0 ≤ x * a1 % 2305843009213693953 ∧ x * a1 % 2305843009213693953 < 2305843009213693953 := by omega
          have H1' := Lib.hid H1
          have H2' := Lib.hid H2
          clear H1 H2
          go_wp2
          refine wp_region_quiet_lit (by kernel_rfl) (by kernel_rfl) ?_
          repeat (any_goals (first | go_big_quiet_step ((go_at_call 113; first | with_reducible exact H1'.out _ | with_reducible exact H2'.out _)) | quiet_step (fail)))
          all_goals (refine wpQuiet_nil ?_; intro _ hw'; obtain ⟨nq, hw''⟩ := hw'; subst hw'')
          all_goals go_wp2_with fail
          refine (times_any a1 d 2305843009213693953 _ (by omega) (by omega) (by omega) (by omega)).mono ?_
          rintro e w' ⟨rfl, rfl⟩
          go_wp2
          go_roundw
          case rel => exact ⟨j + 1, by omega, by go_num, by rw [E.out]; exact congrArg (Value.int .i64) L.out, by rw [E.out]; exact congrArg (Value.int .i64) A.out, below_drewN hb2 _⟩
          case measure => simp [intOf]; omega
        · have e : j = l.length := by omega
          subst e
          rw [List.take_length]
          have N := Lib.hid (fin_step 2305843009213693953 n (sumA l).2)
          have O : Hid (okp l n 2305843009213693953 = ((sumA l).1 % 2305843009213693953 == (n * (sumA l).2) % 2305843009213693953)) := Lib.hid rfl
          generalize hs1 : (sumA l).1 % 2305843009213693953 = s1 at *
          generalize ha1 : (sumA l).2 % 2305843009213693953 = a1 at *
          have r1 : 0 ≤ s1 ∧ s1 < 2305843009213693953 := by omega
          have r2 : 0 ≤ a1 ∧ a1 < 2305843009213693953 := by omega
          clear hs1 ha1
          cases hb : (s1 == (n * a1 % 2305843009213693953)) with
          | true =>
            have H2 : Hid (∀ j, j < 2 + 1 → okp l n (modes.getD j 0) = true) := Lib.hid (fun j hj => by
              rcases Nat.lt_succ_iff_lt_or_eq.1 hj with h | rfl
              · exact H.out j h
              · exact (O.out.trans (by rw [← N.out]; exact hb)))
            have hb' : (s1 != (n * a1 % 2305843009213693953)) = false := by simp [bne, hb]
            clear hb
            go_wp2_with fail
            refine (times_any n a1 2305843009213693953 _ (by omega) (by omega) (by omega) (by omega)).mono ?_
            rintro e w' ⟨rfl, rfl⟩
            go_wp2
            go_roundw
            case rel => exact ⟨2 + 1, by omega, rfl, H2, hb2⟩
            case measure => simp [intOf]
          | false =>
            have R : Hid ((modes.all fun p => okp l n p) = false) := Lib.hid (by
              rw [List.all_eq_false]
              exact ⟨2305843009213693953, by decide, by rw [show ((2305843009213693953 : Nat) : Int) = 2305843009213693953 from rfl, O.out, ← N.out, hb]; decide⟩)
            have hb' : (s1 != (n * a1 % 2305843009213693953)) = true := by simp [bne, hb]
            clear hb
            go_wp2_with fail
            refine (times_any n a1 2305843009213693953 _ (by omega) (by omega) (by omega) (by omega)).mono ?_
            rintro e w' ⟨rfl, rfl⟩
            go_wp2
            go_ret
            exact ⟨ret_b R.out.symm, hb2⟩
    have e6 : k = 3 := by omega
    subst e6
    rw [show (((3 : Nat) : Int) - 1) = 2 from rfl]
    have R : Hid ((modes.all fun p => okp l n p) = true) := Lib.hid (by
      rw [List.all_eq_true]
      intro p hp
      obtain ⟨j, hj, rfl⟩ := List.getElem_of_mem hp
      have := H.out j hj
      rwa [List.getD_eq_getElem?_getD, List.getElem?_eq_getElem hj] at this)
    go_wp2
    go_ret
    exact ⟨ret_b R.out.symm, hbel⟩

end Go.Proofs.Ytaakefjblldccaa
