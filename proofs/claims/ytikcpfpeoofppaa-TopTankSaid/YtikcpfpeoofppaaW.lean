/- Contracts: Sum and Water of the reference. -/
import Derived.Test.YtikcpfpeoofppaaT
import Derived.Test.YtikcpfpeoofppaaV
namespace Go.Proofs.Ytikcpfpeoofppaa
open Go.RowKit

theorem sum_take {l : List Int} {k : Nat} (h : k < l.length) : (l.take (k + 1)).sum = (l.take k).sum + l.getD k 0 := by
  rw [List.take_succ_eq_append_getElem h, List.sum_append, List.getD_eq_getElem?_getD, List.getElem?_eq_getElem h]
  simp
theorem take_bd {l : List Int} (hb : ∀ j, j < l.length → 0 ≤ l.getD j 0 ∧ l.getD j 0 ≤ 12) : ∀ k, k ≤ l.length → 0 ≤ (l.take k).sum ∧ (l.take k).sum ≤ 12 * k
  | 0, _ => by simp
  | k + 1, hk => by
    have h1 := take_bd hb k (by omega)
    have h2 := hb k (by omega)
    rw [sum_take (by omega)]
    push_cast
    omega

set_option maxHeartbeats 1000000 in
theorem rSum_any (v : Value) (l : List Int) (w : World) (hv : IntsAt w v l) (h4 : l.length ≤ 20) (hb : ∀ j, j < l.length → 0 ≤ l.getD j 0 ∧ l.getD j 0 ≤ 12) :
    Calls Try.prog 45 #[v] w fun e w' => e = .returned (.int .i64 l.sum) ∧ w = w' := by
  obtain ⟨a, cap, rfl, hl, hq⟩ := hv
  go_enter Try.func45, Try.ntmps45
  go_wp2
  go_loop [3, 4] (fun s i => ∃ k : Nat, k ≤ l.length ∧ i = .int .i64 k ∧ s = .int .i64 (l.take k).sum) (fun _ i => l.length - (intOf i).toNat)
  case atStart => exact ⟨0, Nat.zero_le _, rfl, rfl⟩
  case round =>
    obtain ⟨k, hk, rfl, rfl⟩ := hrel
    by_cases hlt : k < l.length
    · obtain ⟨b, off, rfl, hc⟩ := hq (by omega)
      have hcell := hc k hlt
      have x1 := take_bd hb k hk
      have x2 := hb k hlt
      have S := Lib.hid (sum_take hlt)
      clear hc hq hb
      generalize l.getD k 0 = x at *
      generalize (l.take k).sum = s at *
      have i1 := IntWalk.i64_in (s + x) (by omega)
      go_wp2
      go_round
      case rel => exact ⟨k + 1, by omega, by go_num, by rw [S.out]⟩
      case measure => simp [intOf]; omega
    · obtain rfl : k = l.length := by omega
      have T := Lib.hid (show (l.take l.length).sum = l.sum by rw [List.take_length])
      generalize (l.take l.length).sum = s at *
      go_wp2
      go_ret
      exact ⟨ret_i T.out, rfl⟩

/-- What Water gives. -/
def wIn (t l : List Int) (ds : List Deed) : Int := if runE t l ds = 0 then inK t l ds ds.length else 0
def wOut (t l : List Int) (ds : List Deed) : Int := if runE t l ds = 0 then outK t l ds ds.length else 0

theorem runE_zero {t l : List Int} {ds : List Deed} (h : runE t l ds = 0) : Tvl t ∧ Lev t l ∧ areD t.length ds = true := by
  unfold runE at h
  split at h
  · rename_i h1
    refine ⟨(askE_zero h1).1, (askE_zero h1).2, ?_⟩
    split at h
    · assumption
    · cases h
  · rename_i h1
    exact absurd h h1

set_option maxRecDepth 100000 in
set_option maxHeartbeats 2000000 in
theorem rWater_any (v y x : Value) (t l : List Int) (ds : List Deed) (w : World) (hv : IntsAt w v t) (hy : IntsAt w y l) (hx : DeedsAt w x ds) :
    Calls Try.prog 44 #[v, y, x] w fun e w' => e = .returned (.tuple #[.int .i64 (wIn t l ds), .int .i64 (wOut t l ds), .int .i64 (runE t l ds)]) ∧ Below w.heap.size w w' := by
  have A := Lib.hid (rAfter_any v y x t l ds w hv hy hx)
  have V := Lib.hid hv
  have Y := Lib.hid hy
  have WI := Lib.hid (show wIn t l ds = if runE t l ds = 0 then inK t l ds ds.length else 0 from rfl)
  have WO := Lib.hid (show wOut t l ds = if runE t l ds = 0 then outK t l ds ds.length else 0 from rfl)
  generalize wIn t l ds = wi at *
  generalize wOut t l ds = wo at *
  obtain ⟨_, _, rfl, _⟩ := hv
  obtain ⟨ya, yc, rfl, _⟩ := hy
  obtain ⟨_, _, rfl, _, hq⟩ := hx
  by_cases hre : runE t l ds = 0
  · obtain ⟨hT0, hL0, hD0⟩ := runE_zero hre
    have HT := Lib.hid hT0
    have HL := Lib.hid hL0
    have HD := Lib.hid hD0
    have LS := Lib.hid (lv_sum hT0 hL0 hD0)
    rw [if_pos hre] at WI WO
    rw [hre]
    unfold GivesA at A
    rw [hre] at A
    have l200 := ((areD_iff _ _).1 hD0).1
    have ht4 := hT0.hi
    clear hT0 hL0 hD0 hre
    go_enter Try.func44, Try.ntmps44
    go_wp2_with fail
    refine A.out.mono ?_
    rintro e w1 ⟨ov, rfl, _, hb1⟩
    go_wp2
    go_loopw [6, 7, 11, 12] (fun a b s i wr => ∃ k : Nat, k ≤ ds.length ∧ i = .int .i64 k ∧ a = .int .i64 (inK t l ds k) ∧ b = .int .i64 (outK t l ds k) ∧ IntsAt wr s (lvK t l ds k) ∧ Below w.heap.size w wr) (fun _ _ _ i _ => ds.length - (intOf i).toNat)
    case atStart => exact ⟨0, Nat.zero_le _, rfl, rfl, rfl, Y.out.below hb1, hb1⟩
    case round =>
      obtain ⟨k, hk, rfl, rfl, rfl, hI, hbel⟩ := hrel
      by_cases hlt : k < ds.length
      · obtain ⟨b, off, rfl, hc⟩ := hq (by omega)
        obtain ⟨x1, x2, x3⟩ := hc k hlt
        have z1 := keep_cell hbel x1
        have z2 := keep_cell hbel x2
        have z3 := keep_cell hbel x3
        have hl0 := lvK_lev HT.out HL.out HD.out k hk
        have hl1 := lvK_lev HT.out HL.out HD.out (k + 1) hlt
        have C := Lib.hid (rDone_any _ _ t (lvK t l ds k) (ds.getD k noDeed) wr (V.out.below hbel) HT.out hI hl0 (isD_at HD.out hlt))
        have IM := in_max HT.out hl0 (isD_at HD.out hlt)
        rw [← lvK_succ t l ds hlt] at C IM
        have HI := Lib.hid hI
        have hs0 := LS.out k hk
        have hs1 := LS.out (k + 1) hlt
        have SA := Lib.hid (fun W (h : IntsAt W u11 (lvK t l ds k)) => rSum_any u11 _ W h (by rw [hl0.1]; omega) (fun j hj => hl0.bd HT.out j (by rw [hl0.1] at hj; exact hj)))
        have SB := Lib.hid (fun ov W (h : IntsAt W ov (lvK t l ds (k + 1))) => rSum_any ov _ W h (by rw [hl1.1]; omega) (fun j hj => hl1.bd HT.out j (by rw [hl1.1] at hj; exact hj)))
        have EI := Lib.hid (show inK t l ds (k + 1) = inK t l ds k + dIn t (lvK t l ds k) (ds.getD k noDeed) from rfl)
        have EO := Lib.hid (show outK t l ds (k + 1) = outK t l ds k + dOut (lvK t l ds k) (ds.getD k noDeed) from rfl)
        rw [IM.1] at EI
        rw [IM.2] at EO
        rw [EI.out, EO.out] at hs1
        have hsum : 0 ≤ (lvK t l ds 0).sum ∧ (lvK t l ds 0).sum ≤ 48 := by
          have hll := HL.out.1
          have := take_bd (l := l) (fun j hj => HL.out.bd HT.out j (by omega)) l.length (Nat.le_refl _)
          rw [List.take_length] at this
          rw [lvK_zero]
          omega
        rw [lvK_zero] at hsum
        clear hc hq x1 x2 x3 hI hl0 hl1 IM
        generalize ds.getD k noDeed = d at *
        obtain ⟨d1, d2, d3⟩ := d
        simp only at z1 z2 z3
        simp only [deedV] at C
        generalize (lvK t l ds k).sum = S1 at *
        generalize (lvK t l ds (k + 1)).sum = S2 at *
        generalize inK t l ds k = ik at *
        generalize outK t l ds k = ok at *
        have i1 := IntWalk.i64_in (S2 - S1) (by omega)
        have i2 := IntWalk.i64_in (S1 - S2) (by omega)
        have I3 := Lib.hid (show wrap64 (ik + if S2 - S1 < 0 then 0 else S2 - S1) = ik + max (S2 - S1) 0 by
          rw [show (if S2 - S1 < 0 then (0 : Int) else S2 - S1) = max (S2 - S1) 0 by split <;> omega]
          exact IntWalk.wrap64_in _ (by omega))
        have I4 := Lib.hid (show wrap64 (ok + if S1 - S2 < 0 then 0 else S1 - S2) = ok + max (S1 - S2) 0 by
          rw [show (if S1 - S2 < 0 then (0 : Int) else S1 - S2) = max (S1 - S2) 0 by split <;> omega]
          exact IntWalk.wrap64_in _ (by omega))
        clear hs0 hs1 hsum
        go_wp2_with fail
        refine C.out.mono ?_
        rintro e w4 ⟨ov, rfl, hov, hb4, _⟩
        have hb5 := hbel.trans (hb4.mono hbel.size)
        have A1 := Lib.hid (SA.out w4 (HI.out.below hb4))
        have B1 := Lib.hid (SB.out ov w4 hov)
        have O4 := Lib.hid hov
        clear hov C
        go_wp2_with (go_at_call 45; first | (with_reducible refine A1.out.mono ?_; rintro e w' ⟨rfl, rfl⟩) | (with_reducible refine B1.out.mono ?_; rintro e w' ⟨rfl, rfl⟩))
        go_roundw
        case rel => exact ⟨k + 1, by omega, by go_num, by rw [EI.out, I3.out], by rw [EO.out, I4.out], O4.out, hb5⟩
        case measure => simp [intOf]; omega
      · obtain rfl : k = ds.length := by omega
        go_wp2
        refine bodyPost_ret (v := .tuple #[.int .i64 (inK t l ds ds.length), .int .i64 (outK t l ds ds.length), .int .i64 0]) (by simp [results, Try.results44, go_sem]) rfl ⟨by rw [WI.out, WO.out], hbel⟩
  · rw [if_neg hre] at WI WO
    have hb2 : (runE t l ds != 0) = true := bne_iff_ne.2 hre
    unfold GivesA at A
    generalize runE t l ds = re at *
    go_enter Try.func44, Try.ntmps44
    go_wp2_with fail
    refine A.out.mono ?_
    rintro e w1 ⟨ov, rfl, _, hb1⟩
    go_wp2
    refine bodyPost_ret (v := .tuple #[.int .i64 0, .int .i64 0, .int .i64 re]) (by simp [results, Try.results44, go_sem]) rfl ⟨by rw [WI.out, WO.out], hb1⟩

end Go.Proofs.Ytikcpfpeoofppaa
