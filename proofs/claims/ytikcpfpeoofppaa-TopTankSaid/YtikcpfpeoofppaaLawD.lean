/- The law TankTwos. -/
import Derived.Test.YtikcpfpeoofppaaTwos
import Derived.Test.YtikcpfpeoofppaaLawA
namespace Go.Proofs.Ytikcpfpeoofppaa
open Go.RowKit

theorem fills_take {r : List (Nat × Nat × Nat)} {k : Nat} (h : k < r.length) : fillsN (r.take (k + 1)) = fillsN (r.take k) + (if (r.getD k (0, 0, 0)).1 = 1 then 1 else 0) := by
  unfold fillsN
  rw [List.take_succ_eq_append_getElem h, List.filter_append, List.length_append, List.getD_eq_getElem?_getD, List.getElem?_eq_getElem h]
  congr 1
  by_cases e : r[k].1 = 1 <;> simp [e]
theorem dz_at {r : List (Nat × Nat × Nat)} {k : Nat} (h : k < r.length) : (r.map dZ).getD k noDeed = dZ (r.getD k (0, 0, 0)) := by
  simp [List.getD_eq_getElem?_getD, h]
theorem two_vals {a b n : Nat} (ha : 1 ≤ a ∧ a ≤ 12) (hb : 1 ≤ b ∧ b ≤ 12) (hn : n ≤ b) : tvl [(a : Int), (b : Int)] = true ∧ (gcl [(a : Int), (b : Int)] : Int) = (Nat.gcd a b : Nat) ∧ betw 0 (n : Int) (b : Int) = true :=
  ⟨(tvl_iff _).2 (tvl_two ha hb), by simp [gcl], (betw_iff _ _ _).2 ⟨by omega, by omega⟩⟩

theorem u8_bounds {x : Int} (h : (Lit.int .u8 x).wf = true) : 0 ≤ x ∧ x ≤ 255 := by
  simp [Lit.wf] at h
  have h1 : IntKind.u8.min = 0 := rfl
  have h2 : IntKind.u8.max = 255 := rfl
  omega

set_option maxRecDepth 100000 in
set_option maxHeartbeats 2000000 in
theorem TankTwos_walk (x y z : Int) (w : World) (wx : (Lit.int .u8 x).wf = true) (wy : (Lit.int .u8 y).wf = true) (wz : (Lit.int .u8 z).wf = true) :
    Calls Try.prog 12 #[.int .u8 x, .int .u8 y, .int .u8 z] w fun e w' => e = .returned (.bool true) ∧ Below w.heap.size w w' := by
  have hx := u8_bounds wx
  have hy := u8_bounds wy
  have hz := u8_bounds wz
  clear wx wy wz
  go_enter Try.func12, Try.ntmps12
  go_wp2_with fail
  obtain ⟨a, ea⟩ := Int.eq_ofNat_of_zero_le (show 0 ≤ 1 + x % 12 by omega)
  obtain ⟨b, eb⟩ := Int.eq_ofNat_of_zero_le (show 0 ≤ 1 + y % 12 by omega)
  have ha : 1 ≤ a ∧ a ≤ 12 := by omega
  have hb : 1 ≤ b ∧ b ≤ 12 := by omega
  obtain ⟨n, en⟩ := Int.eq_ofNat_of_zero_le (show 0 ≤ z % (1 + y % 12 + 1) from Int.emod_nonneg _ (by omega))
  have hn : n ≤ b := by
    have := Int.emod_lt_of_pos z (show 0 < 1 + y % 12 + 1 by omega)
    omega
  rw [en, ea, eb]
  clear ea eb en hx hy hz
  have hal : Below w.heap.size w (w.alloc (.cells #[.int .i64 a, .int .i64 b] 3)) := (Below.refl _ w).alloc (Nat.le_refl _) _
  have HI := Lib.hid (ints_two w a b 3)
  obtain ⟨tv, tg, tb⟩ := two_vals ha hb hn
  have T := Lib.hid (tTwo_any (a : Int) (b : Int) (n : Int) (w.alloc (.cells #[.int .i64 a, .int .i64 b] 3)))
  have M := Lib.hid (fun w1 hb => tMeasure_any _ [(a : Int), (b : Int)] w1 (HI.out.below hb))
  have S := Lib.hid sane_any
  have hmv : mV [(a : Int), (b : Int)] = (Nat.gcd a b : Nat) := by unfold mV; rw [tv, if_pos rfl, tg]
  have hme : mE [(a : Int), (b : Int)] = 0 := by unfold mE; rw [tv, if_pos rfl]
  rw [hmv, hme] at M
  have hg : 0 < Nat.gcd a b := Nat.gcd_pos_of_pos_left _ (by omega)
  by_cases hd : n % Nat.gcd a b = 0
  · have hdz : ((n : Int)) % ((Nat.gcd a b : Nat) : Int) = 0 := by omega
    have hL : twoL a b n = (twoT a b n).map dZ := by unfold twoL; rw [tv, tb, tg, hdz]; simp
    have hE : twoE a b n = 0 := by unfold twoE; rw [tv, tb, tg, if_pos rfl, if_pos rfl, if_pos hdz]
    rw [hL, hE] at T
    have G := Lib.hid (two_good ha hb hn hd)
    clear hL hE tv tg tb hmv hme
    refine T.out.mono ?_
    rintro e w1 ⟨ov, rfl, ho, hb1⟩
    have HO := Lib.hid ho
    clear ho
    go_wp2_with fail
    refine (M.out w1 hb1).mono ?_
    rintro e w2 ⟨rfl, hb2⟩
    have hc1 := hb1.trans (hb2.mono hb1.size)
    have hc2 : Below w.heap.size w w2 := hal.trans (hc1.mono hal.size)
    have hb3 : Below w2.heap.size w2 (w2.alloc (.cells #[.int .i64 0, .int .i64 0] 3)) := (Below.refl _ w2).alloc (Nat.le_refl _) _
    have hc3 := hc2.trans (hb3.mono hc2.size)
    have HD := Lib.hid ((HO.out.below hb2).below hb3)
    have A := Lib.hid (tAfter_any _ _ ov _ [0, 0] _ _ ((HI.out.below hc1).below hb3) (ints_two w2 0 0 3) HD.out)
    obtain ⟨p', hp'⟩ := G.out.val
    unfold GivesA at A
    rw [G.out.err, hp'] at A
    have GF := Lib.hid G.out.fill
    have G1 := Lib.hid G.out.first
    have G6 := Lib.hid G.out.len
    have hdv : ((n : Int)).tmod ((Nat.gcd a b : Nat) : Int) = (n : Int) % ((Nat.gcd a b : Nat) : Int) := Int.tmod_eq_emod_of_nonneg (by omega)
    generalize Nat.gcd a b = g at *
    have hg1 : ¬ ((g : Int) < 1) := by omega
    have hg0 : ¬ ((g : Int) = 0) := by omega
    clear hd T M hal hb1 hb2 hb3 hc1 hc2 hp' G HO
    generalize twoT a b n = r at *
    obtain ⟨oa, ocap, rfl, _, hq⟩ := HD.out
    rw [List.length_map] at hq A ⊢
    go_wp2_with fail
    refine A.out.mono ?_
    rintro e w4 ⟨ov2, rfl, hov2, hb4⟩
    have hc4 := hc3.trans (hb4.mono hc3.size)
    obtain ⟨lb, lo, lc, rfl, hlc⟩ := ints_cell hov2 (by simp)
    have l1 := hlc 1 (by simp)
    simp only [List.getD_cons_succ, List.getD_cons_zero] at l1
    simp only [List.length_cons, List.length_nil, Nat.zero_add, Nat.reduceAdd]
    have hq4 : 0 < r.length → ∃ b off, oa = some ⟨b, off, none⟩ ∧ ∀ j, j < r.length → w4.cell? ⟨b, off + j * 3, none⟩ = some (.int .i64 ((r.getD j (0, 0, 0)).1 : Int)) ∧ w4.cell? ⟨b, off + j * 3 + 2, none⟩ = some (.int .i64 ((r.getD j (0, 0, 0)).2.2 : Int)) := fun h0 => by
      obtain ⟨b', off, e, hc⟩ := hq h0
      refine ⟨b', off, e, fun j hj => ?_⟩
      obtain ⟨c1, _, c3⟩ := hc j hj
      rw [dz_at hj] at c1 c3
      exact ⟨keep_cell hb4 c1, keep_cell hb4 c3⟩
    have HQ := Lib.hid hq4
    have hr64 := G6.out
    clear A hq hq4 hlc hov2 HD
    go_wp2
    go_loop [16, 17] (fun s i => ∃ k : Nat, k ≤ r.length ∧ i = .int .i64 k ∧ s = .int .i64 (fillsN (r.take k) : Nat)) (fun _ i => r.length - (intOf i).toNat)
    case atStart => exact ⟨0, Nat.zero_le _, rfl, rfl⟩
    case round =>
      obtain ⟨k, hk, rfl, rfl⟩ := hrel
      by_cases hlt : k < r.length
      · obtain ⟨b', off, rfl, hc⟩ := HQ.out (by omega)
        obtain ⟨c1, c3⟩ := hc k hlt
        have FT := Lib.hid (fills_take hlt)
        have Z := Lib.hid (fun h => G1.out (r.getD k (0, 0, 0)) (by rw [List.getD_eq_getElem?_getD, List.getElem?_eq_getElem hlt]; exact List.getElem_mem hlt) h)
        have hfl : fillsN (r.take k) ≤ 64 := by
          have h1 : fillsN (r.take k) ≤ (r.take k).length := List.length_filter_le _ _
          rw [List.length_take] at h1
          have := G6.out
          omega
        clear hc
        generalize r.getD k (0, 0, 0) = d at *
        generalize fillsN (r.take k) = fk at *
        by_cases h1 : d.1 = 1
        · have z := Z.out h1
          have FT2 := Lib.hid (show fillsN (r.take (k + 1)) = fk + 1 by rw [FT.out, if_pos h1])
          rw [h1] at c1
          rw [z] at c3
          clear Z FT z h1
          go_wp2
          go_round
          case rel => exact ⟨k + 1, by omega, by go_num, by rw [FT2.out]; go_num⟩
          case measure => simp [intOf]; omega
        · have FT2 := Lib.hid (show fillsN (r.take (k + 1)) = fk by rw [FT.out, if_neg h1]; rfl)
          have h2 : ¬ ((d.1 : Int) = 1) := by omega
          have h3 := beq_eq_false_iff_ne.2 h2
          clear Z FT h1 h2
          go_wp2
          go_round
          case rel => exact ⟨k + 1, by omega, by go_num, by rw [FT2.out]⟩
          case measure => simp [intOf]; omega
      · obtain rfl : k = r.length := by omega
        have hf : ((fillsN (r.take r.length) : Nat) : Int) ≤ (b : Int) := by rw [List.take_length]; have := GF.out; omega
        generalize fillsN (r.take r.length) = fk at *
        go_wp2_with (go_at_call 20; refine (S.out _).mono ?_; rintro e w5 ⟨rfl, hb5⟩)
        go_ret
        exact ⟨rfl, hc4.trans (hb5.mono hc4.size)⟩
  · have hdz : ¬ ((n : Int)) % ((Nat.gcd a b : Nat) : Int) = 0 := by omega
    have hL : twoL a b n = [] := by unfold twoL; rw [tv, tb, tg]; simp [hdz]
    have hE : twoE a b n = 5 := by unfold twoE; rw [tv, tb, tg, if_pos rfl, if_pos rfl, if_neg hdz]
    rw [hL, hE] at T
    clear hL hE tv tg tb hmv hme
    refine T.out.mono ?_
    rintro e w1 ⟨ov, rfl, ho, hb1⟩
    obtain ⟨oa, ocap, rfl, _⟩ := ho
    go_wp2_with fail
    refine (M.out w1 hb1).mono ?_
    rintro e w2 ⟨rfl, hb2⟩
    have hdv : ((n : Int)).tmod ((Nat.gcd a b : Nat) : Int) = (n : Int) % ((Nat.gcd a b : Nat) : Int) := Int.tmod_eq_emod_of_nonneg (by omega)
    have hc2 : Below w.heap.size w w2 := hal.trans ((hb1.trans (hb2.mono hb1.size)).mono hal.size)
    generalize Nat.gcd a b = g at *
    have hg1 : ¬ ((g : Int) < 1) := by omega
    have hg0 : ¬ ((g : Int) = 0) := by omega
    clear hd T M hal hb1 hb2
    go_wp2_with (go_at_call 20; refine (S.out _).mono ?_; rintro e w3 ⟨rfl, hb3⟩)
    go_ret
    exact ⟨ret_b (bne_iff_ne.2 hdz), hc2.trans (hb3.mono hc2.size)⟩

end Go.Proofs.Ytikcpfpeoofppaa
