/- Contract: all deeds of some tanks, of the reference. -/
import Derived.Test.YtikcpfpeoofppaaK
import Derived.Test.YtikcpfpeoofppaaF
namespace Go.Proofs.Ytikcpfpeoofppaa
open Go.RowKit


theorem flatD_one (d : Deed) : flatD [d] = deedC d := by simp [flatD]
theorem pre_le {n : Nat} (hn : n ≤ 4) {i k : Nat} (hi : i < 2) (hk : k < n) : (preF i n ++ fillsL ((i : Int) + 1) k).length ≤ 30 := by
  rw [List.length_append, preF_len, fillsL_len]
  have : i * n ≤ 1 * n := Nat.mul_le_mul_right _ (by omega)
  omega
theorem pour_le {n : Nat} (hn : n ≤ 4) {f k : Nat} (hf : f < n) (hk : k < n) : (preF 2 n ++ preP n f ++ pF f k).length ≤ 30 := by
  rw [List.length_append, List.length_append, preF_len]
  have h1 := preP_len n f
  have h2 := pF_len f k
  have h3 : f * n ≤ 3 * 4 := Nat.mul_le_mul (by omega) hn
  omega

set_option maxRecDepth 100000 in
set_option maxHeartbeats 2000000 in
theorem rDeeds_any0 (n : Nat) (hn : n ≤ 4) (w : World) :
    Calls Try.prog 71 #[.int .i64 n] w fun e w' => ∃ v, e = .returned v ∧ w'.ownsRow w.heap.size 43 3 v (deedsL n).length (flatD (deedsL n)) ∧ Below w.heap.size w w' := by
  obtain ⟨i0, hi0, hz0, hz1, hz2⟩ := info_parts Try.infoDeed
  go_enter Try.func71, Try.ntmps71
  go_wp2
  go_loopw [3, 4] (fun s o wr => ∃ i : Nat, ∃ z : Int, z = (i : Int) + 1 ∧ i ≤ 2 ∧ o = .int .i64 z ∧ wr.ownsRow w.heap.size 43 3 s (preF i n).length (flatD (preF i n)) ∧ Below w.heap.size w wr) (fun _ o _ => 3 - (intOf o).toNat)
  case atStart => exact ⟨0, 1, rfl, Nat.zero_le _, rfl, World.ownsRow_nil _ _ _ _, Below.refl _ _⟩
  case round =>
    obtain ⟨i, z, hz, hi, rfl, hrow, hbel⟩ := hrel
    obtain ⟨wo, rfl⟩ : ∃ wo : World, wo = wr := ⟨_, rfl⟩
    by_cases hlt : i < 2
    · have SO := Lib.hid (preF_snoc i n)
      subst hz
      have hdz : decide ((i : Int) + 1 ≤ 2) = true := decide_eq_true (by omega)
      go_wp2
      go_loopw [3, 5] (fun s o wr => ∃ k : Nat, k ≤ n ∧ o = .int .i64 k ∧ wr.ownsRow w.heap.size 43 3 s (preF i n ++ fillsL ((i : Int) + 1) k).length (flatD (preF i n ++ fillsL ((i : Int) + 1) k)) ∧ Below w.heap.size w wr) (fun _ o _ => n - (intOf o).toNat)
      case atStart => exact ⟨0, Nat.zero_le _, rfl, by rw [show fillsL ((i : Int) + 1) 0 = [] from rfl, List.append_nil]; exact hrow, hbel⟩
      case round =>
        clear hrow hbel
        obtain ⟨k, hk, rfl, hrow, hbel⟩ := hrel
        by_cases hkn : k < n
        · have LB := Lib.hid (pre_le hn hlt hkn)
          have SN := Lib.hid (show preF i n ++ fillsL ((i : Int) + 1) (k + 1) = (preF i n ++ fillsL ((i : Int) + 1) k) ++ [((i : Int) + 1, 0, (k : Int))] by rw [fillsL_snoc, List.append_assoc])
          have hkn' : (k : Int) < (n : Int) := by omega
          go_wp2_with (at_builtin; refine wpList_append_own _ rfl _ _ 22 rfl w.heap.size 43 i0 (.agg #[.int .i64 0, .int .i64 0, .int .i64 0]) 3 24 Try.underlying22 hi0 hz0 hz1 hz2 rfl (by decide) _ _ _ rfl (hrow.alloc _) ⟨wr.heap.size, 0, none⟩ 1 1 [.int .i64 ((i : Int) + 1), .int .i64 0, .int .i64 k] rfl rfl (cell3_new _ _ _ _ _ rfl) ?c2 ?c3 ?c4 ?c5 ?_)
          case c2 => intro u hu; simp at hu; rcases hu with rfl | rfl | rfl <;> rfl
          case c3 => have := LB.out; unfold maxLen; omega
          case c4 => have := LB.out; omega
          case c5 => have := hbel.size; simp; omega
          intro v' w3 hown' hgrow _
          have R : Below w.heap.size w w3 := below_append hbel hbel.size hrow hgrow
          have OW : Hid (w3.ownsRow w.heap.size 43 3 v' (preF i n ++ fillsL ((i : Int) + 1) (k + 1)).length (flatD (preF i n ++ fillsL ((i : Int) + 1) (k + 1)))) := Lib.hid (by
            rw [SN.out, flatD_append, List.length_append]
            simpa [Nat.add_assoc, List.append_assoc, flatD_one, deedC] using hown')
          clear hgrow hown' hrow SN LB
          go_wp2
          go_roundw
          case rel => exact ⟨k + 1, by omega, by go_num, OW.out, R⟩
          case measure => simp [intOf]; omega
        · obtain rfl : k = n := by omega
          rw [← SO.out] at hrow
          have HR := Lib.hid hrow
          clear hrow SO
          go_wp2
          go_roundw
          case rel => exact ⟨i + 1, (i : Int) + 1 + 1, by omega, by omega, rfl, HR.out, hbel⟩
          case measure => simp [intOf]; omega
    · obtain rfl : i = 2 := by omega
      obtain rfl : z = 3 := by omega
      clear hlt hi hz
      have HR := Lib.hid hrow
      clear hrow
      go_wp2
      go_loopw [3, 6] (fun s o wr => ∃ f : Nat, f ≤ n ∧ o = .int .i64 f ∧ wr.ownsRow w.heap.size 43 3 s (preF 2 n ++ preP n f).length (flatD (preF 2 n ++ preP n f)) ∧ Below w.heap.size w wr) (fun _ o _ => n - (intOf o).toNat)
      case atStart => exact ⟨0, Nat.zero_le _, rfl, by rw [show preP n 0 = [] from rfl, List.append_nil]; exact HR.out, hbel⟩
      case round =>
        clear HR hbel
        obtain ⟨f, hf, rfl, hrow, hbel⟩ := hrel
        obtain ⟨w5, rfl⟩ : ∃ w5 : World, w5 = wr := ⟨_, rfl⟩
        by_cases hlt : f < n
        · have SO := Lib.hid (preP_snoc n f)
          have hlt' : (f : Int) < (n : Int) := by omega
          go_wp2
          go_loopw [3, 7] (fun s o wr => ∃ k : Nat, k ≤ n ∧ o = .int .i64 k ∧ wr.ownsRow w.heap.size 43 3 s (preF 2 n ++ preP n f ++ pF f k).length (flatD (preF 2 n ++ preP n f ++ pF f k)) ∧ Below w.heap.size w wr) (fun _ o _ => n - (intOf o).toNat)
          case atStart => exact ⟨0, Nat.zero_le _, rfl, by rw [show pF f 0 = [] from rfl, List.append_nil]; exact hrow, hbel⟩
          case round =>
            clear hrow hbel
            obtain ⟨k, hk, rfl, hrow, hbel⟩ := hrel
            by_cases hkn : k < n
            · have hkn' : (k : Int) < (n : Int) := by omega
              by_cases hfk : k = f
              · subst hfk
                rw [← pF_same k] at hrow
                have HR := Lib.hid hrow
                have hne : ((k : Int) != (k : Int)) = false := bne_self_eq_false _
                clear hrow
                go_wp2
                go_roundw
                case rel => exact ⟨k + 1, by omega, by go_num, HR.out, hbel⟩
                case measure => simp [intOf]; omega
              · have LB := Lib.hid (pour_le hn hlt hkn)
                have SN := Lib.hid (show preF 2 n ++ preP n f ++ pF f (k + 1) = (preF 2 n ++ preP n f ++ pF f k) ++ [(3, (f : Int), (k : Int))] by rw [pF_snoc hfk]; simp only [List.append_assoc])
                have hne : ((f : Int) != (k : Int)) = true := bne_iff_ne.2 (by omega)
                clear hfk
                go_wp2_with (at_builtin; refine wpList_append_own _ rfl _ _ 22 rfl w.heap.size 43 i0 (.agg #[.int .i64 0, .int .i64 0, .int .i64 0]) 3 24 Try.underlying22 hi0 hz0 hz1 hz2 rfl (by decide) _ _ _ rfl (hrow.alloc _) ⟨wr.heap.size, 0, none⟩ 1 1 [.int .i64 3, .int .i64 f, .int .i64 k] rfl rfl (cell3_new _ _ _ _ _ rfl) ?c2 ?c3 ?c4 ?c5 ?_)
                case c2 => intro u hu; simp at hu; rcases hu with rfl | rfl | rfl <;> rfl
                case c3 => have := LB.out; unfold maxLen; omega
                case c4 => have := LB.out; omega
                case c5 => have := hbel.size; simp; omega
                intro v' w3 hown' hgrow _
                have R : Below w.heap.size w w3 := below_append hbel hbel.size hrow hgrow
                have OW : Hid (w3.ownsRow w.heap.size 43 3 v' (preF 2 n ++ preP n f ++ pF f (k + 1)).length (flatD (preF 2 n ++ preP n f ++ pF f (k + 1)))) := Lib.hid (by
                  rw [SN.out, flatD_append, List.length_append]
                  simpa [Nat.add_assoc, List.append_assoc, flatD_one, deedC] using hown')
                clear hgrow hown' hrow SN LB
                go_wp2
                go_roundw
                case rel => exact ⟨k + 1, by omega, by go_num, OW.out, R⟩
                case measure => simp [intOf]; omega
            · obtain rfl : k = n := by omega
              rw [List.append_assoc, ← SO.out] at hrow
              have HR := Lib.hid hrow
              clear hrow SO
              go_wp2
              go_roundw
              case rel => exact ⟨f + 1, by omega, by go_num, HR.out, hbel⟩
              case measure => simp [intOf]; omega
        · obtain rfl : f = n := by omega
          have HR := Lib.hid (show w5.ownsRow w.heap.size 43 3 _ (deedsL f).length (flatD (deedsL f)) from hrow)
          clear hrow
          go_wp2
          go_ret
          exact ⟨_, rfl, HR.out, hbel⟩

theorem rDeeds_any (n : Nat) (hn : n ≤ 4) (w : World) :
    Calls Try.prog 71 #[.int .i64 n] w fun e w' => ∃ v, e = .returned v ∧ DeedsAt w' v (deedsL n) ∧ Below w.heap.size w w' := by
  refine (rDeeds_any0 n hn w).mono ?_
  rintro e w' ⟨v, rfl, hr, hb⟩
  exact ⟨v, rfl, own_deeds hr (by have := deedsL_len hn; omega), hb⟩

end Go.Proofs.Ytikcpfpeoofppaa
