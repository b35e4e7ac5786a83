/- The law TopTank: the walk. -/
import Derived.Test.YtikcpfpeoofppaaLawI
import Derived.Test.YtikcpfpeoofppaaLawD
import Derived.Test.YtikcpfpeoofppaaX
import Derived.Deep.RegionHeld3
namespace Go.Proofs.Ytikcpfpeoofppaa
open Go.RowKit Go.Shelf

theorem kbR (w : World) : KB w w := Below.refl _ _
theorem kbD {w W : World} (h : KB w W) : KB w W.drew := Below.drew h
theorem kbC {w W w2 : World} (h : KB w W) (hb : Below W.heap.size W w2) : KB w w2 := Below.trans h (hb.mono h.size)

theorem amtE_ok {t : List Int} {k : Nat} {n : Int} (ht : Tvl t) (hk : k < t.length) (h0 : 0 ≤ n) (h1 : n ≤ 12) : amtE t k n = 0 := by
  unfold amtE
  rw [(tvl_iff t).2 ht, if_pos rfl, (betw_iff 0 (k : Int) _).2 ⟨by omega, by omega⟩, (betw_iff 0 n 12).2 ⟨h0, h1⟩]
  rfl

theorem dE_wayT {t : List Int} {i n : Int} (h : amtE t i n = 0) : dE t i n = (if (way t (zerosL t) (amtG i n)).isSome then 0 else 5) := by
  unfold dE
  rw [if_pos h]

/-- What a tank answers: the amount can be had, or not. -/
inductive Had (t : List Int) (k : Nat) (n : Int) : Prop where
  | yes (h1 : dE t k n = 0) (h2 : canV t k n = true) (h3 : n % (gcl t : Int) = 0) (h4 : n ≤ t.getD k 0)
  | no1 (h1 : dE t k n = 5) (h2 : canV t k n = false) (h3 : n % (gcl t : Int) ≠ 0)
  | no2 (h1 : dE t k n = 5) (h2 : canV t k n = false) (h3 : n % (gcl t : Int) = 0) (h4 : ¬ n ≤ t.getD k 0)
theorem had_any {t : List Int} {k : Nat} {n : Int} (ht : Tvl t) (hk : k < t.length) (h0 : 0 ≤ n) (h1 : n ≤ 12) : Had t k n := by
  have ha := amtE_ok ht hk h0 h1
  have hw := way_iff (n := n) ht (i := (k : Int)) ⟨by omega, by omega⟩ h0
  have hd := (dE_wayT ha)
  rw [Int.toNat_natCast] at hw
  by_cases h2 : n % (gcl t : Int) = 0
  · by_cases h3 : n ≤ t.getD k 0
    · rw [beq_iff_eq.2 h2, decide_eq_true h3] at hw
      rw [hw] at hd
      have he : dE t k n = 0 := hd
      exact .yes he (can_of.1 he).1 h2 h3
    · rw [decide_eq_false h3, Bool.and_false] at hw
      rw [hw] at hd
      have he : dE t k n = 5 := hd
      exact .no2 he (can_of.2 (by rw [he]; decide)) h2 h3
  · rw [beq_eq_false_iff_ne.2 h2, Bool.false_and] at hw
    rw [hw] at hd
    have he : dE t k n = 5 := hd
    exact .no1 he (can_of.2 (by rw [he]; decide)) h2

/-- What the fewest deeds do. -/
structure BestW (t : List Int) (k : Nat) (n : Int) (dl : List Deed) : Prop where
  err : runE t (zerosL t) dl = 0
  val : (runV t (zerosL t) dl).getD k 0 = n
  lev : Lev t (runV t (zerosL t) dl)
  back : backV t (runV t (zerosL t) dl) = true ∧ askE t [runV t (zerosL t) dl] = 0
  sum : (runV t (zerosL t) dl).sum = wIn t (zerosL t) dl - wOut t (zerosL t) dl
  bd : 0 ≤ wIn t (zerosL t) dl ∧ wIn t (zerosL t) dl ≤ 2400 ∧ 0 ≤ wOut t (zerosL t) dl ∧ wOut t (zerosL t) dl ≤ 2400

theorem zeros_sum (t : List Int) : (zerosL t).sum = 0 := by
  unfold zerosL
  induction t.length with
  | zero => rfl
  | succ n ih => rw [List.replicate_succ, List.sum_cons, ih]; rfl

theorem best_of {t : List Int} {k : Nat} {n : Int} (h : dE t k n = 0) : BestW t k n (dL t k n) := by
  obtain ⟨ht, hi0, hi1, hn0, hn1, hD, hX⟩ := dL_good h
  have he : runE t (zerosL t) (dL t k n) = 0 := by rw [runE_zeros ht, hD]; rfl
  have hv : runV t (zerosL t) (dL t k n) = (dL t k n).foldl (doneL t) (zerosL t) := by unfold runV; rw [he]; rfl
  have hs := lv_sum ht (zeros_lev ht) hD (dL t k n).length (Nat.le_refl _)
  rw [lvK_full, zeros_sum] at hs
  have h200 := ((areD_iff _ _).1 hD).1
  have hwi : wIn t (zerosL t) (dL t k n) = inK t (zerosL t) (dL t k n) (dL t k n).length := by unfold wIn; rw [if_pos he]
  have hwo : wOut t (zerosL t) (dL t k n) = outK t (zerosL t) (dL t k n) (dL t k n).length := by unfold wOut; rw [if_pos he]
  rw [Int.toNat_natCast] at hX
  refine ⟨he, by rw [hv]; exact hX, by rw [hv]; exact (reached ht hD).1, by rw [hv]; exact back_reached ht hD, ?_, ?_⟩
  · rw [hv, hwi, hwo, hs.1]; omega
  · rw [hwi, hwo]; omega

/-- Two tanks: what Two gives. -/
inductive TwoHad (t : List Int) (n : Int) : Prop where
  | yes (h0 : n % (gcl t : Int) = 0) (h1 : twoE (t.getD 0 0) (t.getD 1 0) n = 0) (h2 : runE t (zerosL t) (twoL (t.getD 0 0) (t.getD 1 0) n) = 0) (h3 : (runV t (zerosL t) (twoL (t.getD 0 0) (t.getD 1 0) n)).length = 2)
      (h4 : (runV t (zerosL t) (twoL (t.getD 0 0) (t.getD 1 0) n)).getD 1 0 = n) (h5 : dE t 1 n = 0) (h6 : (dL t 1 n).length ≤ (twoL (t.getD 0 0) (t.getD 1 0) n).length) (h7 : (twoL (t.getD 0 0) (t.getD 1 0) n).length ≤ 64)
  | no (h0 : n % (gcl t : Int) ≠ 0) (h1 : twoE (t.getD 0 0) (t.getD 1 0) n = 5) (h2 : twoL (t.getD 0 0) (t.getD 1 0) n = [])
theorem two_had {t : List Int} {n : Int} (ht : Tvl t) (h2 : t.length = 2) (h0 : 0 ≤ n) (hq : n ≤ t.getD 1 0) : TwoHad t n := by
  obtain ⟨p, q, rfl⟩ : ∃ p q, t = [p, q] := by
    match t, h2 with
    | [p, q], _ => exact ⟨p, q, rfl⟩
  have hp := ht.holds p (by simp)
  have hqq := ht.holds q (by simp)
  obtain ⟨a, rfl⟩ := Int.eq_ofNat_of_zero_le (show 0 ≤ p by omega)
  obtain ⟨b, rfl⟩ := Int.eq_ofNat_of_zero_le (show 0 ≤ q by omega)
  obtain ⟨m, rfl⟩ := Int.eq_ofNat_of_zero_le h0
  have hm : m ≤ b := by simpa using hq
  have ha : 1 ≤ a ∧ a ≤ 12 := by omega
  have hb : 1 ≤ b ∧ b ≤ 12 := by omega
  obtain ⟨tv, tg, tb⟩ := two_vals ha hb hm
  have hz : zerosL [(a : Int), (b : Int)] = [0, 0] := rfl
  by_cases hd : m % Nat.gcd a b = 0
  · have hdz : ((m : Int)) % ((Nat.gcd a b : Nat) : Int) = 0 := by omega
    have hL : twoL (a : Int) (b : Int) m = (twoT a b m).map dZ := by unfold twoL; rw [tv, tb, tg, hdz]; simp
    have hE : twoE (a : Int) (b : Int) m = 0 := by unfold twoE; rw [tv, tb, tg, if_pos rfl, if_pos rfl, if_pos hdz]
    have G := two_good ha hb hm hd
    obtain ⟨p', hp'⟩ := G.val
    obtain ⟨_, _, hD⟩ := runE_zero G.err
    have hw := had_any (k := 1) (n := (m : Int)) ht (by simp) (by omega) (by omega)
    have hde : dE [(a : Int), (b : Int)] 1 m = 0 := by
      rcases hw with ⟨h1, _⟩ | ⟨_, _, h3⟩ | ⟨_, _, _, h4⟩
      · exact h1
      · rw [tg] at h3; exact absurd hdz h3
      · exact absurd (by simpa using hq) h4
    refine .yes (by rw [tg]; exact hdz) hE ?_ ?_ ?_ hde ?_ ?_
    · show runE [(a : Int), (b : Int)] (zerosL [(a : Int), (b : Int)]) (twoL (a : Int) (b : Int) m) = 0
      rw [hL, hz]; exact G.err
    · show (runV [(a : Int), (b : Int)] (zerosL [(a : Int), (b : Int)]) (twoL (a : Int) (b : Int) m)).length = 2
      rw [hL, hz, hp']; rfl
    · show (runV [(a : Int), (b : Int)] (zerosL [(a : Int), (b : Int)]) (twoL (a : Int) (b : Int) m)).getD 1 0 = m
      rw [hL, hz, hp']; rfl
    · show (dL [(a : Int), (b : Int)] 1 m).length ≤ (twoL (a : Int) (b : Int) m).length
      refine dL_least hde (areD_isD (by rw [hL]; exact hD)) ?_
      have hv : runV [(a : Int), (b : Int)] [0, 0] ((twoT a b m).map dZ) = ((twoT a b m).map dZ).foldl (doneL [(a : Int), (b : Int)]) [0, 0] := by unfold runV; rw [if_pos G.err]
      rw [hL, hz, ← hv, hp']
      rfl
    · show (twoL (a : Int) (b : Int) m).length ≤ 64
      rw [hL, List.length_map]; exact G.len
  · have hdz : ¬ ((m : Int)) % ((Nat.gcd a b : Nat) : Int) = 0 := by omega
    refine .no (by rw [tg]; exact hdz) ?_ ?_
    · show twoE (a : Int) (b : Int) m = 5
      unfold twoE; rw [tv, tb, tg, if_pos rfl, if_pos rfl, if_neg hdz]
    · show twoL (a : Int) (b : Int) m = []
      unfold twoL; rw [tv, tb, tg, beq_eq_false_iff_ne.2 hdz]; rfl



set_option maxRecDepth 100000 in
set_option maxHeartbeats 20000000 in
theorem TopTank_walk (v x : Value) (t : List Int) (ds : List Deed) (a : Int) (w : World) (hv : IntsAt w v t) (wa : (Lit.int .u8 a).wf = true) (hx : DeedsAt w x ds) :
    Calls Try.prog 11 #[v, .int .u8 a, x] w fun e w' => e = .returned (.bool true) ∧ Below w.heap.size w w' := by
  have L := Lib.hid (long_any v (.slice none 0 0) t [] w hv (ints_nil w))
  have V := Lib.hid hv
  have X := Lib.hid hx
  have S := Lib.hid sane_any
  have hab := u8_bounds wa
  have RV := Lib.hid (rValid_any v t w hv)
  obtain ⟨a0, c0, rfl, hl0, _⟩ := hv
  obtain ⟨a2, c2, rfl, hl2, _⟩ := hx
  clear wa
  cases hlong : (decide (20 < t.length) || decide (20 < ([] : List Int).length)) with
  | true =>
    rw [hlong] at L
    clear hlong
    go_enter Try.func11, Try.ntmps11
    go_wp2_with (first | (go_at_call 21; refine L.out.mono ?_; rintro e w' ⟨rfl, rfl⟩) | (go_at_call 20; refine (S.out _).mono ?_; rintro e w' ⟨rfl, hbS⟩))
    go_ret
    exact ⟨rfl, hbS⟩
  | false =>
    rw [hlong] at L
    clear hlong
    cases htv : tvl t with
    | false =>
      rw [htv] at RV
      clear htv
      go_enter Try.func11, Try.ntmps11
      go_wp2_with (first | (go_at_call 21; refine L.out.mono ?_; rintro e w' ⟨rfl, rfl⟩) | (go_at_call 39; refine RV.out.mono ?_; rintro e w' ⟨rfl, rfl⟩) | (go_at_call 20; refine (S.out _).mono ?_; rintro e w' ⟨rfl, hbS⟩))
      go_ret
      exact ⟨rfl, hbS⟩
    | true =>
      have ht := (tvl_iff t).1 htv
      rw [htv] at RV
      by_cases h300 : (300 : Int) < (ds.length : Int)
      · clear htv
        go_enter Try.func11, Try.ntmps11
        go_wp2_with (first | (go_at_call 21; refine L.out.mono ?_; rintro e w' ⟨rfl, rfl⟩) | (go_at_call 39; refine RV.out.mono ?_; rintro e w' ⟨rfl, rfl⟩) | (go_at_call 20; refine (S.out _).mono ?_; rintro e w' ⟨rfl, hbS⟩))
        go_ret
        exact ⟨rfl, hbS⟩
      · have HT := Lib.hid ht
        have hlo := ht.lo
        have hhi := ht.hi
        have hg := ht.gcl_pos
        have M := Lib.hid (tMeasure_any _ t w V.out)
        have hmv : mV t = (gcl t : Int) := by unfold mV; rw [htv, if_pos rfl]
        have hme : mE t = 0 := by unfold mE; rw [htv, if_pos rfl]
        rw [hmv, hme] at M
        clear htv ht hmv hme
        obtain ⟨j0, hj0, hy0, hy1, hy2⟩ := info_parts Try.infoInt
        have HRE := Lib.hid (runE_zeros HT.out ds)
        generalize hgg : gcl t = gg at M hg
        have HGG := Lib.hid hgg
        clear hgg
        have hg1 : ¬ ((gg : Int) < 1) := by omega
        have hg0 : ¬ ((gg : Int) = 0) := by omega
        obtain ⟨tb, tof, tc, he, htc⟩ := ints_cell V.out (by omega)
        simp only [Value.slice.injEq] at he
        obtain ⟨rfl, -, rfl⟩ := he
        have HTC0 := Lib.hid htc
        clear htc
        go_enter Try.func11, Try.ntmps11
        go_wp2_with (first | (go_at_call 21; refine L.out.mono ?_; rintro e w' ⟨rfl, rfl⟩) | (go_at_call 39; refine RV.out.mono ?_; rintro e w' ⟨rfl, rfl⟩))
        have hn0 := Int.emod_nonneg a (show (13 : Int) ≠ 0 by decide)
        have hn1 := Int.emod_lt_of_pos a (show (0 : Int) < 13 by decide)
        generalize a % 13 = n at *
        refine M.out.mono ?_
        rintro e w1 ⟨rfl, hb1⟩
        have HB1 := Lib.hid hb1
        have hdv : n.tmod (gg : Int) = n % (gg : Int) := Int.tmod_eq_emod_of_nonneg hn0
        obtain ⟨r, hr⟩ : ∃ r, r = n % (gg : Int) := ⟨_, rfl⟩
        have HR := Lib.hid hr
        have m1 : n.tmod (gg : Int) = r := by rw [hdv, hr]
        have m2 : n % (gg : Int) = r := hr.symm
        clear hb1 L RV M hab hdv hr
        go_wp2_with (at_make; refine wpList_make_full _ rfl _ _ 29 rfl w1.heap.size 3 j0 (.int .i64 0) 1 Try.underlying29 hj0 hy0 hy1 .i64 .i64 _ _ t.length rfl rfl rfl rfl (by rw [hy2]; omega) (by unfold maxLen; omega) (Nat.le_refl _) ?_; intro w2 hown2 hgrow2)
        have hstep := (Below.refl w1.heap.size w1).grown hgrow2 (Nat.le_refl _) (fun k e => by cases e)
        have HB2 := Lib.hid (HB1.out.trans (hstep.mono HB1.out.size))
        have HZ2 := Lib.hid (zeros_at (hown2) hl0)
        clear hown2 hgrow2
        clear hstep
        have A := Lib.hid (tAfter_any _ _ _ t (zerosL t) ds w2 (V.out.below HB2.out) HZ2.out (X.out.below HB2.out))
        unfold GivesA at A
        cases hD : areD t.length ds with
        | false =>
          rw [HRE.out, hD] at A
          have HRV : Hid (runV t (zerosL t) ds = []) := Lib.hid (by unfold runV; rw [HRE.out, hD]; rfl)
          rw [HRV.out] at A
          simp only [Bool.false_eq_true, if_false] at A
          clear hD
          refine A.out.mono ?_
          rintro e w3 ⟨ov3, rfl, hov3, hb3⟩
          obtain ⟨oa3, oc3, rfl, _⟩ := hov3
          have HB23 := Lib.hid hb3
          have HB3 := Lib.hid (HB2.out.trans (hb3.mono HB2.out.size))
          have HTC := Lib.hid (fun k hk => keep_cell HB3.out (HTC0.out k hk))
          clear hb3 HRV HRE A
          go_wp2
          go_loopw [12] (fun i wr => ∃ k : Nat, k ≤ t.length ∧ i = .int .i64 k ∧ Below w3.heap.size w3 wr) (fun i _ => t.length - (intOf i).toNat)
          case atStart => exact ⟨0, Nat.zero_le _, rfl, Below.refl _ _⟩
          case round =>
            obtain ⟨k, hk, rfl, hbel⟩ := hrel
            have HBW := Lib.hid (HB3.out.trans (hbel.mono HB3.out.size))
            by_cases hlt : k < t.length
            · have hlt' : (k : Int) < (t.length : Int) := by omega
              have HZr := Lib.hid ((HZ2.out.below HB23.out).below hbel)
              have x1 := keep_cell hbel (HTC.out k hlt)
              have HAM := Lib.hid (amtE_ok HT.out hlt hn0 (by omega))
              have HH := had_any HT.out hlt hn0 (by omega)
              rcases HH with ⟨h1, h2, h3, h4⟩ | ⟨h1, h2, h3⟩ | ⟨h1, h2, h3, h4⟩
              · rw [HGG.out, m2] at h3
                rw [h3] at m1 m2
                have C := Lib.hid (tCan_any _ t k n wr (V.out.below HBW.out))
                rw [h2, canE_eq, HAM.out] at C
                have D := Lib.hid (fun W hb => tDeeds_any _ t k n W (V.out.below hb))
                have B := best_of h1
                have HLE := Lib.hid (fun qs hq hx => dL_least (qs := qs) h1 hq hx)
                have h200 := ((areD_iff _ _).1 (dL_good h1).2.2.2.2.2.1).1
                rw [h1] at D
                clear h1 h2 HAM
                generalize dL t k n = dl at *
                go_wp2_with fail
                refine C.out.mono ?_
                rintro e w4 ⟨rfl, hb4⟩
                have HB4 := Lib.hid (HBW.out.trans (hb4.mono HBW.out.size))
                go_wp2_with fail
                refine (D.out w4 HB4.out).mono ?_
                rintro e w5 ⟨ov5, rfl, hov5, hb5⟩
                have O5 := Lib.hid hov5
                obtain ⟨oa5, oc5, rfl, _⟩ := hov5
                have hb45 := hb4.trans (hb5.mono hb4.size)
                have HB45 := Lib.hid hb45
                have HB5 := Lib.hid (hbel.trans (hb45.mono hbel.size))
                have HBW5 := Lib.hid (HB4.out.trans (hb5.mono HB4.out.size))
                have A2 := Lib.hid (tAfter_any _ _ _ t (zerosL t) dl w5 (V.out.below HBW5.out) (HZr.out.below HB45.out) O5.out)
                have W2 := Lib.hid (fun W (hb : Below w5.heap.size w5 W) => tWater_any _ _ _ t (zerosL t) dl W ((V.out.below HBW5.out).below hb) ((HZr.out.below HB45.out).below hb) (O5.out.below hb))
                unfold GivesA at A2
                rw [B.err] at A2 W2
                have HB := Lib.hid B
                obtain ⟨_, b1, b2, b3, b4, b5⟩ := B
                generalize runV t (zerosL t) dl = LV at *
                generalize wIn t (zerosL t) dl = wi at *
                generalize wOut t (zerosL t) dl = wo at *
                have HLv := Lib.hid b2
                have HBk := Lib.hid b3
                have HSm := Lib.hid b4
                have HVal := Lib.hid b1
                have hlv : LV.length = t.length := b2.1
                have HLV := Lib.hid hlv
                clear b1 b2 b3 b4 hlv HB
                have x5 := keep_cell hb45 x1
                generalize t.getD k 0 = tk at *
                clear h3
                clear hbel hb4 hb5 hb45 C D
                go_wp2_with fail
                refine A2.out.mono ?_
                rintro e w6 ⟨ov6, rfl, hov6, hb6⟩
                have HB6 := Lib.hid hb6
                go_wp2_with fail
                refine (W2.out w6 HB6.out).mono ?_
                rintro e w7 ⟨rfl, hb7⟩
                have O7 := Lib.hid (hov6.below hb7)
                have HB7 := Lib.hid (HB6.out.trans (hb7.mono HB6.out.size))
                have HBW7 := Lib.hid (HBW5.out.trans (HB7.out.mono HBW5.out.size))
                have AL := Lib.hid (rAreLevels_any _ ov6 t LV w7 (V.out.below HBW7.out) O7.out)
                rw [(levB_iff t LV).2 HLv.out] at AL
                have SU := Lib.hid (fun W (h : IntsAt W ov6 LV) => rSum_any ov6 LV W h (by rw [HLV.out]; omega) (fun j hj => HLv.out.bd HT.out j (by rw [HLV.out] at hj; exact hj)))
                have BK := Lib.hid (fun W (hb : Below w7.heap.size w7 W) => tBack_any _ ov6 t LV W ((V.out.below HBW7.out).below hb) (O7.out.below hb))
                rw [HBk.out.1, HBk.out.2] at BK
                rw [HSm.out] at SU
                obtain ⟨ob6, oo6, oc6, rfl, hoc6⟩ := ints_cell hov6 (by rw [HLV.out]; omega)
                have y6 := keep_cell hb7 (hoc6 k (by rw [HLV.out]; exact hlt))
                rw [HVal.out] at y6
                have hkl : (k : Int) < (LV.length : Int) := by rw [HLV.out]; omega
                have hws : IntKind.i64.wrap (wi - wo) = wi - wo := IntWalk.i64_in _ (by omega)
                clear hb6 hb7 hov6 hoc6 A2 W2
                go_wp2_with fail
                refine AL.out.mono ?_
                rintro e w8 ⟨rfl, hb8⟩
                have y8 := keep_cell hb8 y6
                have HB8 := Lib.hid hb8
                clear hb8 y6
                go_wp2_with fail
                refine (SU.out _ (O7.out.below HB8.out)).mono ?_
                rintro e w' ⟨rfl, rfl⟩
                go_wp2_with fail
                refine (BK.out _ HB8.out).mono ?_
                rintro e w9 ⟨rfl, hb9⟩
                have HB9 := Lib.hid (HB5.out.trans ((HB7.out.trans ((HB8.out.trans (hb9.mono HB8.out.size)).mono HB7.out.size)).mono HB5.out.size))
                clear hb9 y8 hws
                go_wp2
                go_roundw
                case rel => exact ⟨k + 1, by omega, by go_num, HB9.out⟩
                case measure => simp [intOf]; omega
              · rw [HGG.out, m2] at h3
                have hr0 := beq_eq_false_iff_ne.2 h3
                have C := Lib.hid (tCan_any _ t k n wr (V.out.below HBW.out))
                rw [h2, canE_eq, HAM.out] at C
                have D := Lib.hid (fun W hb => tDeeds_any _ t k n W (V.out.below hb))
                rw [h1, dL_nil (by rw [h1]; decide)] at D
                clear h1 h2 HAM
                go_wp2_with fail
                refine C.out.mono ?_
                rintro e w4 ⟨rfl, hb4⟩
                have HB4 := Lib.hid (HBW.out.trans (hb4.mono HBW.out.size))
                go_wp2_with fail
                refine (D.out w4 HB4.out).mono ?_
                rintro e w5 ⟨ov5, rfl, hov5, hb5⟩
                obtain ⟨oa5, oc5, rfl, _⟩ := hov5
                have hb45 := hb4.trans (hb5.mono hb4.size)
                have HB5 := Lib.hid (hbel.trans (hb45.mono hbel.size))
                generalize t.getD k 0 = tk at *
                clear h3 x1
                clear hbel hb4 hb5 hb45 C D
                go_wp2
                go_roundw
                case rel => exact ⟨k + 1, by omega, by go_num, HB5.out⟩
                case measure => simp [intOf]; omega
              · rw [HGG.out, m2] at h3
                rw [h3] at m1 m2
                have C := Lib.hid (tCan_any _ t k n wr (V.out.below HBW.out))
                rw [h2, canE_eq, HAM.out] at C
                have D := Lib.hid (fun W hb => tDeeds_any _ t k n W (V.out.below hb))
                rw [h1, dL_nil (by rw [h1]; decide)] at D
                clear h1 h2 HAM
                go_wp2_with fail
                refine C.out.mono ?_
                rintro e w4 ⟨rfl, hb4⟩
                have HB4 := Lib.hid (HBW.out.trans (hb4.mono HBW.out.size))
                go_wp2_with fail
                refine (D.out w4 HB4.out).mono ?_
                rintro e w5 ⟨ov5, rfl, hov5, hb5⟩
                obtain ⟨oa5, oc5, rfl, _⟩ := hov5
                have hb45 := hb4.trans (hb5.mono hb4.size)
                have HB5 := Lib.hid (hbel.trans (hb45.mono hbel.size))
                have x5 := keep_cell hb45 x1
                generalize t.getD k 0 = tk at *
                clear h3 x1
                clear hbel hb4 hb5 hb45 C D
                go_wp2
                go_roundw
                case rel => exact ⟨k + 1, by omega, by go_num, HB5.out⟩
                case measure => simp [intOf]; omega
            · obtain rfl : k = t.length := by omega
              have HBE := Lib.hid HBW.out
              have hbeX := hbel
              clear hbel HBW
              by_cases h2l : t.length = 2
              · have hne2 : (((t.length : Nat) : Int) != 2) = false := bne_eq_false_iff_eq.2 (by omega)
                have hne3 : ((t.length : Nat) : Int) = 2 := by omega
                have TH := Lib.hid (fun hq => two_had (n := n) HT.out h2l hn0 hq)
                have q0 := keep_cell hbeX (HTC.out 0 (by omega))
                have q1 := keep_cell hbeX (HTC.out 1 (by omega))
                have HZr := Lib.hid ((HZ2.out.below HB23.out).below hbeX)
                rw [Nat.add_zero] at q0
                have T := Lib.hid (fun W (hW : KB wr W) => (tTwo_any (t.getD 0 0) (t.getD 1 0) n W).mono (R' := fun e w' => ∃ ov, e = .returned (.tuple #[ov, .int .i64 (twoE (t.getD 0 0) (t.getD 1 0) n)]) ∧ DeedsAt w' ov (twoL (t.getD 0 0) (t.getD 1 0) n) ∧ KB wr w') (fun e w' ⟨ov, h1, h2, h3⟩ => ⟨ov, h1, h2, kbC hW h3⟩))
                have i0 : (0 : Int) < (t.length : Int) := by omega
                have i1 : (1 : Int) < (t.length : Int) := by omega
                clear h2l hbeX
                by_cases hnq : n ≤ t.getD 1 0
                · have TH2 := TH.out hnq
                  have r0 : ∀ W, KB wr W → W.cell? ⟨tb, tof, none⟩ = some (.int .i64 (t.getD 0 0)) := fun W h => kb_cell h q0
                  have r1 : ∀ W, KB wr W → W.cell? ⟨tb, tof + 1, none⟩ = some (.int .i64 (t.getD 1 0)) := fun W h => kb_cell h q1
                  have L5 := Lib.hid (fun W (hW : KB wr W) => tLeast_any _ t 1 n W ((V.out.below HBE.out).below hW))
                  rcases TH2 with ⟨h0, h1, h2, h3, h4, h5, h6, h7⟩ | ⟨h0, h1, h2⟩
                  · rw [HGG.out, m2] at h0
                    rw [h0] at m1 m2
                    rw [h1] at T
                    rw [h5] at L5
                    clear TH
                    generalize twoL (t.getD 0 0) (t.getD 1 0) n = tl at *
                    have H2 := Lib.hid h2
                    have H3 := Lib.hid h3
                    have H4 := Lib.hid h4
                    clear h0 h1 h2 h3 h4 h5
                    generalize dL t 1 n = dl at *
                    generalize t.getD 0 0 = p at *
                    generalize t.getD 1 0 = q at *
                    go_wp2
                    go_region_held3 (fun W => KB wr W) (first | exact kbD (kbR _) | assumption | (apply kbD; assumption)) (first
                      | (go_at_call 17; (with_reducible refine (T.out _ ?_).mono ?_); (first | exact kbD (kbR _) | exact kbR _); rintro e w5 ⟨ov5, rfl, hov5, k5⟩; have O5 := Lib.hid hov5; obtain ⟨oa5, oc5, rfl, _⟩ := hov5)
                      | fail)
                    have K5 := Lib.hid k5
                    have A5 := Lib.hid (fun W (hW : KB w5 W) => tAfter_any _ _ _ t (zerosL t) tl W ((V.out.below HBE.out).below (kbC K5.out hW)) (HZr.out.below (kbC K5.out hW)) (O5.out.below hW))
                    unfold GivesA at A5
                    rw [H2.out] at A5
                    generalize runV t (zerosL t) tl = LV at *
                    clear k5 q0 q1 r0 r1
                    go_wp2_with fail
                    refine (A5.out _ (by first | exact kbR _ | exact kbD (kbR _))).mono ?_
                    rintro e w6 ⟨ov6, rfl, hov6, hb6⟩
                    have k6 : KB wr w6 := kbC (by first | exact K5.out | exact kbD K5.out) hb6
                    have K6 := Lib.hid k6
                    obtain ⟨ob6, oo6, oc6, rfl, hoc6⟩ := ints_cell hov6 (by rw [H3.out]; omega)
                    have y6 := hoc6 1 (by rw [H3.out]; omega)
                    rw [H4.out] at y6
                    rw [H3.out]
                    clear hb6 k6 hov6 hoc6 A5
                    go_wp2_with fail
                    refine (L5.out _ K6.out).mono ?_
                    rintro e w7 ⟨rfl, hb7⟩
                    have y7 := keep_cell hb7 y6
                    have HB7 := Lib.hid (HBE.out.trans ((kbC K6.out hb7 : Below wr.heap.size wr w7).mono HBE.out.size))
                    clear hb7 y6
                    go_wp2_with (first | (go_at_call 20; refine (S.out _).mono ?_; rintro e w' ⟨rfl, hbS⟩))
                    go_ret
                    exact ⟨rfl, HB7.out.trans (hbS.mono HB7.out.size)⟩
                  · rw [HGG.out, m2] at h0
                    rw [h1, h2] at T
                    have hr0 : (r != 0) = true := bne_iff_ne.2 h0
                    clear h0 h1 h2 TH L5
                    generalize t.getD 0 0 = p at *
                    generalize t.getD 1 0 = q at *
                    go_wp2
                    go_region_held3 (fun W => KB wr W) (first | exact kbD (kbR _) | assumption | (apply kbD; assumption)) (first
                      | (go_at_call 17; (with_reducible refine (T.out _ ?_).mono ?_); (first | exact kbD (kbR _) | exact kbR _); rintro e w5 ⟨ov5, rfl, hov5, k5⟩; have O5 := Lib.hid hov5; obtain ⟨oa5, oc5, rfl, _⟩ := hov5)
                      | fail)
                    have K5 := Lib.hid k5
                    clear k5 q0 q1 r0 r1
                    go_wp2_with (first | (go_at_call 20; refine (S.out _).mono ?_; rintro e w' ⟨rfl, hbS⟩))
                    go_ret
                    have h5 := HBE.out.trans (Below.mono (show Below wr.heap.size wr _ by first | exact K5.out | exact kbD K5.out) HBE.out.size)
                    exact ⟨rfl, h5.trans (hbS.mono (by first | exact h5.size | exact (kbD h5).size))⟩
                · generalize t.getD 1 0 = q at *
                  clear TH T q0
                  go_wp2_with (first | (go_at_call 20; refine (S.out _).mono ?_; rintro e w' ⟨rfl, hbS⟩))
                  go_ret
                  exact ⟨rfl, HBE.out.trans (hbS.mono HBE.out.size)⟩
              · have hne2 : (((t.length : Nat) : Int) != 2) = true := bne_iff_ne.2 (by omega)
                go_wp2_with (first | (go_at_call 20; refine (S.out _).mono ?_; rintro e w' ⟨rfl, hbS⟩))
                go_ret
                exact ⟨rfl, HBE.out.trans (hbS.mono HBE.out.size)⟩
        | true =>
          have HRV := Lib.hid (show runV t (zerosL t) ds = ds.foldl (doneL t) (zerosL t) by unfold runV; rw [HRE.out, hD]; rfl)
          have HRR := Lib.hid (reached HT.out hD)
          have HLS := Lib.hid (fun k (hk : k < t.length) hz => dE_none (qs := ds) (i := (k : Int)) (n := n) HT.out ⟨by omega, by omega⟩ hz (areD_isD hD))
          have HDD := Lib.hid (areD_isD hD)
          rw [HRE.out, hD, HRV.out] at A
          simp only [if_true] at A
          clear hD HRV HRE
          generalize hFO : ds.foldl (doneL t) (zerosL t) = LL at A HRR HLS
          have HFO := Lib.hid hFO
          clear hFO
          have hlen : LL.length = t.length := HRR.out.1.1
          refine A.out.mono ?_
          rintro e w3 ⟨ov3, rfl, hov3, hb3⟩
          have HB23 := Lib.hid hb3
          have HB3 := Lib.hid (HB2.out.trans (hb3.mono HB2.out.size))
          have HTC := Lib.hid (fun k hk => keep_cell HB3.out (HTC0.out k hk))
          obtain ⟨ob, oo, oc, rfl, hoc⟩ := ints_cell hov3 (by omega)
          have HOC := Lib.hid hoc
          have HLEN := Lib.hid hlen
          clear hb3 A hoc hov3 hlen
          go_wp2
          go_loopw [12] (fun i wr => ∃ k : Nat, k ≤ t.length ∧ i = .int .i64 k ∧ Below w3.heap.size w3 wr) (fun i _ => t.length - (intOf i).toNat)
          case atStart => exact ⟨0, Nat.zero_le _, rfl, Below.refl _ _⟩
          case round =>
            obtain ⟨k, hk, rfl, hbel⟩ := hrel
            have HBW := Lib.hid (HB3.out.trans (hbel.mono HB3.out.size))
            by_cases hlt : k < t.length
            · have hlt' : (k : Int) < (t.length : Int) := by omega
              have HZr := Lib.hid ((HZ2.out.below HB23.out).below hbel)
              have x1 := keep_cell hbel (HTC.out k hlt)
              have HAM := Lib.hid (amtE_ok HT.out hlt hn0 (by omega))
              have HH := had_any HT.out hlt hn0 (by omega)
              have z1 := keep_cell hbel (HOC.out k (by rw [HLEN.out]; exact hlt))
              have hkl2 : (k : Int) < (LL.length : Int) := by rw [HLEN.out]; omega
              rcases HH with ⟨h1, h2, h3, h4⟩ | ⟨h1, h2, h3⟩ | ⟨h1, h2, h3, h4⟩
              · rw [HGG.out, m2] at h3
                rw [h3] at m1 m2
                have HQ := Lib.hid (fun (hz : LL.getD k 0 = n) => dL_least (qs := ds) h1 HDD.out (by rw [Int.toNat_natCast, HFO.out]; exact hz))
                have C := Lib.hid (tCan_any _ t k n wr (V.out.below HBW.out))
                rw [h2, canE_eq, HAM.out] at C
                have D := Lib.hid (fun W hb => tDeeds_any _ t k n W (V.out.below hb))
                have B := best_of h1
                have HLE := Lib.hid (fun qs hq hx => dL_least (qs := qs) h1 hq hx)
                have h200 := ((areD_iff _ _).1 (dL_good h1).2.2.2.2.2.1).1
                rw [h1] at D
                clear h1 h2 HAM
                generalize dL t k n = dl at *
                go_wp2_with fail
                refine C.out.mono ?_
                rintro e w4 ⟨rfl, hb4⟩
                have HB4 := Lib.hid (HBW.out.trans (hb4.mono HBW.out.size))
                go_wp2_with fail
                refine (D.out w4 HB4.out).mono ?_
                rintro e w5 ⟨ov5, rfl, hov5, hb5⟩
                have O5 := Lib.hid hov5
                obtain ⟨oa5, oc5, rfl, _⟩ := hov5
                have hb45 := hb4.trans (hb5.mono hb4.size)
                have HB45 := Lib.hid hb45
                have HB5 := Lib.hid (hbel.trans (hb45.mono hbel.size))
                have HBW5 := Lib.hid (HB4.out.trans (hb5.mono HB4.out.size))
                have A2 := Lib.hid (tAfter_any _ _ _ t (zerosL t) dl w5 (V.out.below HBW5.out) (HZr.out.below HB45.out) O5.out)
                have W2 := Lib.hid (fun W (hb : Below w5.heap.size w5 W) => tWater_any _ _ _ t (zerosL t) dl W ((V.out.below HBW5.out).below hb) ((HZr.out.below HB45.out).below hb) (O5.out.below hb))
                unfold GivesA at A2
                rw [B.err] at A2 W2
                have HB := Lib.hid B
                obtain ⟨_, b1, b2, b3, b4, b5⟩ := B
                generalize runV t (zerosL t) dl = LV at *
                generalize wIn t (zerosL t) dl = wi at *
                generalize wOut t (zerosL t) dl = wo at *
                have HLv := Lib.hid b2
                have HBk := Lib.hid b3
                have HSm := Lib.hid b4
                have HVal := Lib.hid b1
                have hlv : LV.length = t.length := b2.1
                have HLV := Lib.hid hlv
                clear b1 b2 b3 b4 hlv HB
                have x5 := keep_cell hb45 x1
                have z5 := keep_cell hb45 z1
                generalize t.getD k 0 = tk at *
                clear h3 x1 z1
                by_cases hz : LL.getD k 0 = n
                · have hq := HQ.out hz
                  have hnl : ¬ ((ds.length : Int) < (dl.length : Int)) := by omega
                  rw [hz] at z5
                  clear hz HQ
                  clear hbel hb4 hb5 hb45 C D
                  go_wp2_with fail
                  refine A2.out.mono ?_
                  rintro e w6 ⟨ov6, rfl, hov6, hb6⟩
                  have HB6 := Lib.hid hb6
                  go_wp2_with fail
                  refine (W2.out w6 HB6.out).mono ?_
                  rintro e w7 ⟨rfl, hb7⟩
                  have O7 := Lib.hid (hov6.below hb7)
                  have HB7 := Lib.hid (HB6.out.trans (hb7.mono HB6.out.size))
                  have HBW7 := Lib.hid (HBW5.out.trans (HB7.out.mono HBW5.out.size))
                  have AL := Lib.hid (rAreLevels_any _ ov6 t LV w7 (V.out.below HBW7.out) O7.out)
                  rw [(levB_iff t LV).2 HLv.out] at AL
                  have SU := Lib.hid (fun W (h : IntsAt W ov6 LV) => rSum_any ov6 LV W h (by rw [HLV.out]; omega) (fun j hj => HLv.out.bd HT.out j (by rw [HLV.out] at hj; exact hj)))
                  have BK := Lib.hid (fun W (hb : Below w7.heap.size w7 W) => tBack_any _ ov6 t LV W ((V.out.below HBW7.out).below hb) (O7.out.below hb))
                  rw [HBk.out.1, HBk.out.2] at BK
                  rw [HSm.out] at SU
                  obtain ⟨ob6, oo6, oc6, rfl, hoc6⟩ := ints_cell hov6 (by rw [HLV.out]; omega)
                  have y6 := keep_cell hb7 (hoc6 k (by rw [HLV.out]; exact hlt))
                  rw [HVal.out] at y6
                  have hkl : (k : Int) < (LV.length : Int) := by rw [HLV.out]; omega
                  have hws : IntKind.i64.wrap (wi - wo) = wi - wo := IntWalk.i64_in _ (by omega)
                  clear hb6 hb7 hov6 hoc6 A2 W2
                  go_wp2_with fail
                  refine AL.out.mono ?_
                  rintro e w8 ⟨rfl, hb8⟩
                  have y8 := keep_cell hb8 y6
                  have HB8 := Lib.hid hb8
                  clear hb8 y6
                  go_wp2_with fail
                  refine (SU.out _ (O7.out.below HB8.out)).mono ?_
                  rintro e w' ⟨rfl, rfl⟩
                  go_wp2_with fail
                  refine (BK.out _ HB8.out).mono ?_
                  rintro e w9 ⟨rfl, hb9⟩
                  have HB9 := Lib.hid (HB5.out.trans ((HB7.out.trans ((HB8.out.trans (hb9.mono HB8.out.size)).mono HB7.out.size)).mono HB5.out.size))
                  clear hb9 y8 hws
                  go_wp2
                  go_roundw
                  case rel => exact ⟨k + 1, by omega, by go_num, HB9.out⟩
                  case measure => simp [intOf]; omega
                · have hzf := beq_eq_false_iff_ne.2 hz
                  generalize LL.getD k 0 = z at *
                  clear hz HQ
                  clear hbel hb4 hb5 hb45 C D
                  go_wp2_with fail
                  refine A2.out.mono ?_
                  rintro e w6 ⟨ov6, rfl, hov6, hb6⟩
                  have HB6 := Lib.hid hb6
                  go_wp2_with fail
                  refine (W2.out w6 HB6.out).mono ?_
                  rintro e w7 ⟨rfl, hb7⟩
                  have O7 := Lib.hid (hov6.below hb7)
                  have HB7 := Lib.hid (HB6.out.trans (hb7.mono HB6.out.size))
                  have HBW7 := Lib.hid (HBW5.out.trans (HB7.out.mono HBW5.out.size))
                  have AL := Lib.hid (rAreLevels_any _ ov6 t LV w7 (V.out.below HBW7.out) O7.out)
                  rw [(levB_iff t LV).2 HLv.out] at AL
                  have SU := Lib.hid (fun W (h : IntsAt W ov6 LV) => rSum_any ov6 LV W h (by rw [HLV.out]; omega) (fun j hj => HLv.out.bd HT.out j (by rw [HLV.out] at hj; exact hj)))
                  have BK := Lib.hid (fun W (hb : Below w7.heap.size w7 W) => tBack_any _ ov6 t LV W ((V.out.below HBW7.out).below hb) (O7.out.below hb))
                  rw [HBk.out.1, HBk.out.2] at BK
                  rw [HSm.out] at SU
                  obtain ⟨ob6, oo6, oc6, rfl, hoc6⟩ := ints_cell hov6 (by rw [HLV.out]; omega)
                  have y6 := keep_cell hb7 (hoc6 k (by rw [HLV.out]; exact hlt))
                  rw [HVal.out] at y6
                  have hkl : (k : Int) < (LV.length : Int) := by rw [HLV.out]; omega
                  have hws : IntKind.i64.wrap (wi - wo) = wi - wo := IntWalk.i64_in _ (by omega)
                  clear hb6 hb7 hov6 hoc6 A2 W2
                  go_wp2_with fail
                  refine AL.out.mono ?_
                  rintro e w8 ⟨rfl, hb8⟩
                  have y8 := keep_cell hb8 y6
                  have HB8 := Lib.hid hb8
                  clear hb8 y6
                  go_wp2_with fail
                  refine (SU.out _ (O7.out.below HB8.out)).mono ?_
                  rintro e w' ⟨rfl, rfl⟩
                  go_wp2_with fail
                  refine (BK.out _ HB8.out).mono ?_
                  rintro e w9 ⟨rfl, hb9⟩
                  have HB9 := Lib.hid (HB5.out.trans ((HB7.out.trans ((HB8.out.trans (hb9.mono HB8.out.size)).mono HB7.out.size)).mono HB5.out.size))
                  clear hb9 y8 hws
                  go_wp2
                  go_roundw
                  case rel => exact ⟨k + 1, by omega, by go_num, HB9.out⟩
                  case measure => simp [intOf]; omega
              · rw [HGG.out, m2] at h3
                have hr0 := beq_eq_false_iff_ne.2 h3
                have hzn := HLS.out k hlt (by rw [h1]; decide)
                rw [Int.toNat_natCast] at hzn
                have hzf := beq_eq_false_iff_ne.2 hzn
                have C := Lib.hid (tCan_any _ t k n wr (V.out.below HBW.out))
                rw [h2, canE_eq, HAM.out] at C
                have D := Lib.hid (fun W hb => tDeeds_any _ t k n W (V.out.below hb))
                rw [h1, dL_nil (by rw [h1]; decide)] at D
                clear h1 h2 HAM
                go_wp2_with fail
                refine C.out.mono ?_
                rintro e w4 ⟨rfl, hb4⟩
                have HB4 := Lib.hid (HBW.out.trans (hb4.mono HBW.out.size))
                go_wp2_with fail
                refine (D.out w4 HB4.out).mono ?_
                rintro e w5 ⟨ov5, rfl, hov5, hb5⟩
                obtain ⟨oa5, oc5, rfl, _⟩ := hov5
                have hb45 := hb4.trans (hb5.mono hb4.size)
                have HB5 := Lib.hid (hbel.trans (hb45.mono hbel.size))
                have z5 := keep_cell hb45 z1
                generalize t.getD k 0 = tk at *
                generalize LL.getD k 0 = z at *
                clear h3 x1 z1 hzn
                clear hbel hb4 hb5 hb45 C D
                go_wp2
                go_roundw
                case rel => exact ⟨k + 1, by omega, by go_num, HB5.out⟩
                case measure => simp [intOf]; omega
              · rw [HGG.out, m2] at h3
                rw [h3] at m1 m2
                have hzn := HLS.out k hlt (by rw [h1]; decide)
                rw [Int.toNat_natCast] at hzn
                have hzf := beq_eq_false_iff_ne.2 hzn
                have C := Lib.hid (tCan_any _ t k n wr (V.out.below HBW.out))
                rw [h2, canE_eq, HAM.out] at C
                have D := Lib.hid (fun W hb => tDeeds_any _ t k n W (V.out.below hb))
                rw [h1, dL_nil (by rw [h1]; decide)] at D
                clear h1 h2 HAM
                go_wp2_with fail
                refine C.out.mono ?_
                rintro e w4 ⟨rfl, hb4⟩
                have HB4 := Lib.hid (HBW.out.trans (hb4.mono HBW.out.size))
                go_wp2_with fail
                refine (D.out w4 HB4.out).mono ?_
                rintro e w5 ⟨ov5, rfl, hov5, hb5⟩
                obtain ⟨oa5, oc5, rfl, _⟩ := hov5
                have hb45 := hb4.trans (hb5.mono hb4.size)
                have HB5 := Lib.hid (hbel.trans (hb45.mono hbel.size))
                have x5 := keep_cell hb45 x1
                have z5 := keep_cell hb45 z1
                generalize t.getD k 0 = tk at *
                generalize LL.getD k 0 = z at *
                clear h3 x1 z1 hzn
                clear hbel hb4 hb5 hb45 C D
                go_wp2
                go_roundw
                case rel => exact ⟨k + 1, by omega, by go_num, HB5.out⟩
                case measure => simp [intOf]; omega
            · obtain rfl : k = t.length := by omega
              have HBE := Lib.hid HBW.out
              have hbeX := hbel
              clear hbel HBW
              by_cases h2l : t.length = 2
              · have hne2 : (((t.length : Nat) : Int) != 2) = false := bne_eq_false_iff_eq.2 (by omega)
                have hne3 : ((t.length : Nat) : Int) = 2 := by omega
                have TH := Lib.hid (fun hq => two_had (n := n) HT.out h2l hn0 hq)
                have q0 := keep_cell hbeX (HTC.out 0 (by omega))
                have q1 := keep_cell hbeX (HTC.out 1 (by omega))
                have HZr := Lib.hid ((HZ2.out.below HB23.out).below hbeX)
                rw [Nat.add_zero] at q0
                have T := Lib.hid (fun W (hW : KB wr W) => (tTwo_any (t.getD 0 0) (t.getD 1 0) n W).mono (R' := fun e w' => ∃ ov, e = .returned (.tuple #[ov, .int .i64 (twoE (t.getD 0 0) (t.getD 1 0) n)]) ∧ DeedsAt w' ov (twoL (t.getD 0 0) (t.getD 1 0) n) ∧ KB wr w') (fun e w' ⟨ov, h1, h2, h3⟩ => ⟨ov, h1, h2, kbC hW h3⟩))
                have i0 : (0 : Int) < (t.length : Int) := by omega
                have i1 : (1 : Int) < (t.length : Int) := by omega
                clear h2l hbeX
                by_cases hnq : n ≤ t.getD 1 0
                · have TH2 := TH.out hnq
                  have r0 : ∀ W, KB wr W → W.cell? ⟨tb, tof, none⟩ = some (.int .i64 (t.getD 0 0)) := fun W h => kb_cell h q0
                  have r1 : ∀ W, KB wr W → W.cell? ⟨tb, tof + 1, none⟩ = some (.int .i64 (t.getD 1 0)) := fun W h => kb_cell h q1
                  have L5 := Lib.hid (fun W (hW : KB wr W) => tLeast_any _ t 1 n W ((V.out.below HBE.out).below hW))
                  rcases TH2 with ⟨h0, h1, h2, h3, h4, h5, h6, h7⟩ | ⟨h0, h1, h2⟩
                  · rw [HGG.out, m2] at h0
                    rw [h0] at m1 m2
                    rw [h1] at T
                    rw [h5] at L5
                    clear TH
                    generalize twoL (t.getD 0 0) (t.getD 1 0) n = tl at *
                    have H2 := Lib.hid h2
                    have H3 := Lib.hid h3
                    have H4 := Lib.hid h4
                    clear h0 h1 h2 h3 h4 h5
                    generalize dL t 1 n = dl at *
                    generalize t.getD 0 0 = p at *
                    generalize t.getD 1 0 = q at *
                    go_wp2
                    go_region_held3 (fun W => KB wr W) (first | exact kbD (kbR _) | assumption | (apply kbD; assumption)) (first
                      | (go_at_call 17; (with_reducible refine (T.out _ ?_).mono ?_); (first | exact kbD (kbR _) | exact kbR _); rintro e w5 ⟨ov5, rfl, hov5, k5⟩; have O5 := Lib.hid hov5; obtain ⟨oa5, oc5, rfl, _⟩ := hov5)
                      | fail)
                    have K5 := Lib.hid k5
                    have A5 := Lib.hid (fun W (hW : KB w5 W) => tAfter_any _ _ _ t (zerosL t) tl W ((V.out.below HBE.out).below (kbC K5.out hW)) (HZr.out.below (kbC K5.out hW)) (O5.out.below hW))
                    unfold GivesA at A5
                    rw [H2.out] at A5
                    generalize runV t (zerosL t) tl = LV at *
                    clear k5 q0 q1 r0 r1
                    go_wp2_with fail
                    refine (A5.out _ (by first | exact kbR _ | exact kbD (kbR _))).mono ?_
                    rintro e w6 ⟨ov6, rfl, hov6, hb6⟩
                    have k6 : KB wr w6 := kbC (by first | exact K5.out | exact kbD K5.out) hb6
                    have K6 := Lib.hid k6
                    obtain ⟨ob6, oo6, oc6, rfl, hoc6⟩ := ints_cell hov6 (by rw [H3.out]; omega)
                    have y6 := hoc6 1 (by rw [H3.out]; omega)
                    rw [H4.out] at y6
                    rw [H3.out]
                    clear hb6 k6 hov6 hoc6 A5
                    go_wp2_with fail
                    refine (L5.out _ K6.out).mono ?_
                    rintro e w7 ⟨rfl, hb7⟩
                    have y7 := keep_cell hb7 y6
                    have HB7 := Lib.hid (HBE.out.trans ((kbC K6.out hb7 : Below wr.heap.size wr w7).mono HBE.out.size))
                    clear hb7 y6
                    go_wp2_with (first | (go_at_call 20; refine (S.out _).mono ?_; rintro e w' ⟨rfl, hbS⟩))
                    go_ret
                    exact ⟨rfl, HB7.out.trans (hbS.mono HB7.out.size)⟩
                  · rw [HGG.out, m2] at h0
                    rw [h1, h2] at T
                    have hr0 : (r != 0) = true := bne_iff_ne.2 h0
                    clear h0 h1 h2 TH L5
                    generalize t.getD 0 0 = p at *
                    generalize t.getD 1 0 = q at *
                    go_wp2
                    go_region_held3 (fun W => KB wr W) (first | exact kbD (kbR _) | assumption | (apply kbD; assumption)) (first
                      | (go_at_call 17; (with_reducible refine (T.out _ ?_).mono ?_); (first | exact kbD (kbR _) | exact kbR _); rintro e w5 ⟨ov5, rfl, hov5, k5⟩; have O5 := Lib.hid hov5; obtain ⟨oa5, oc5, rfl, _⟩ := hov5)
                      | fail)
                    have K5 := Lib.hid k5
                    clear k5 q0 q1 r0 r1
                    go_wp2_with (first | (go_at_call 20; refine (S.out _).mono ?_; rintro e w' ⟨rfl, hbS⟩))
                    go_ret
                    have h5 := HBE.out.trans (Below.mono (show Below wr.heap.size wr _ by first | exact K5.out | exact kbD K5.out) HBE.out.size)
                    exact ⟨rfl, h5.trans (hbS.mono (by first | exact h5.size | exact (kbD h5).size))⟩
                · generalize t.getD 1 0 = q at *
                  clear TH T q0
                  go_wp2_with (first | (go_at_call 20; refine (S.out _).mono ?_; rintro e w' ⟨rfl, hbS⟩))
                  go_ret
                  exact ⟨rfl, HBE.out.trans (hbS.mono HBE.out.size)⟩
              · have hne2 : (((t.length : Nat) : Int) != 2) = true := bne_iff_ne.2 (by omega)
                go_wp2_with (first | (go_at_call 20; refine (S.out _).mono ?_; rintro e w' ⟨rfl, hbS⟩))
                go_ret
                exact ⟨rfl, HBE.out.trans (hbS.mono HBE.out.size)⟩

end Go.Proofs.Ytikcpfpeoofppaa
