/- The walk of the law TopFund. -/
import Derived.Test.YtaakefjblldccaaOu
import Derived.Test.YtaakefjblldccaaWl
import Derived.Test.YtaakefjblldccaaKb
import Derived.Deep.RegionHeld3
import Derived.Deep.DeepCutAuto
namespace Go.Proofs.Ytaakefjblldccaa
open Go.RowKit

/-- The five lists of awards. -/
structure Five (A : Nat) (arr : Array Value) (W : World) : Prop where
  at' : W.heap[A]? = some (.cells arr 36 (0, 0))
  size : arr.size = 5
theorem Five.below {A : Nat} {arr : Array Value} {W W' : World} (h : Five A arr W) (hb : Below W.heap.size W W') : Five A arr W' := ⟨(hb.block A (Array.getElem?_eq_some_iff.1 h.at').1).trans h.at', h.size⟩
theorem Five.cell {A : Nat} {arr : Array Value} {W : World} (h : Five A arr W) {j : Nat} {v : Value} (hj : arr[j]? = some v) : W.cell? ⟨A, j, none⟩ = some v := by simp [World.cell?, h.at', hj]
theorem Five.any {A : Nat} {arr : Array Value} {W : World} (h : Five A arr W) {j : Nat} (hj : j < 5) : ∃ v, W.cell? ⟨A, j, none⟩ = some v := ⟨_, h.cell (Array.getElem?_eq_getElem (by rw [h.size]; exact hj))⟩
theorem Five.frozen {A : Nat} {arr : Array Value} {W : World} (h : Five A arr W) (j : Nat) : W.frozen? ⟨A, j, none⟩ = false := by simp [World.frozen?, h.at']
theorem Five.set {A : Nat} {arr : Array Value} {W : World} (h : Five A arr W) (j : Nat) (v : Value) : Five A (arr.setIfInBounds j v) (W.setCell ⟨A, j, none⟩ v) := by
  refine ⟨?_, by rw [Array.size_setIfInBounds]; exact h.size⟩
  obtain ⟨hlt, hk⟩ := Array.getElem?_eq_some_iff.1 h.at'
  show (W.heap.modify A _)[A]? = _
  rw [Array.getElem?_eq_getElem (by rw [Array.size_modify]; exact hlt), Array.getElem_modify_self, hk]
  rfl

/-- Ratios that lie elsewhere. -/
structure RB (A : Nat) (v : Value) (l : List Rat2) (W : World) : Prop where
  at' : RatsAt W v l
  blk : ∀ a n c, v = .slice (some a) n c → a.block ≠ A
theorem RB.below {A : Nat} {v : Value} {l : List Rat2} {W W' : World} (h : RB A v l W) (hb : Below W.heap.size W W') : RB A v l W' := ⟨h.at'.below hb, h.blk⟩
theorem RB.store {A : Nat} {v : Value} {l : List Rat2} {W : World} (h : RB A v l W) (j : Nat) (x : Value) : RB A v l (W.setCell ⟨A, j, none⟩ x) := by
  refine ⟨?_, h.blk⟩
  obtain ⟨a, cap, h1, h2, h3⟩ := h.at'
  refine ⟨a, cap, h1, h2, fun h0 => ?_⟩
  obtain ⟨b, off, h4, h5⟩ := h3 h0
  refine ⟨b, off, h4, fun k hk => ?_⟩
  have hne : b ≠ A := h.blk ⟨b, off, none⟩ _ _ (by rw [h1, h4])
  have hk' := Below.heap_setCell W ⟨A, j, none⟩ x b hne
  exact ⟨(World.cell?_of_block hk').trans (h5 k hk).1, (World.cell?_of_block hk').trans (h5 k hk).2⟩

/-- The list at a place. -/
def AtF (A : Nat) (arr : Array Value) (j : Nat) (l : List Rat2) (W : World) : Prop := ∃ v, arr[j]? = some v ∧ RB A v l W
theorem AtF.below {A : Nat} {arr : Array Value} {j : Nat} {l : List Rat2} {W W' : World} (h : AtF A arr j l W) (hb : Below W.heap.size W W') : AtF A arr j l W' := by
  obtain ⟨v, h1, h2⟩ := h
  exact ⟨v, h1, h2.below hb⟩
theorem AtF.other {A : Nat} {arr : Array Value} {j : Nat} {l : List Rat2} {W : World} (h : AtF A arr j l W) {k : Nat} (hk : k ≠ j) (x : Value) : AtF A (arr.setIfInBounds k x) j l (W.setCell ⟨A, k, none⟩ x) := by
  obtain ⟨v, h1, h2⟩ := h
  exact ⟨v, by rw [Array.getElem?_setIfInBounds_ne hk]; exact h1, h2.store k x⟩
theorem AtF.here {A : Nat} {arr : Array Value} {l : List Rat2} {W : World} {x : Value} (h : RB A x l W) {k : Nat} (hk : k < arr.size) : AtF A (arr.setIfInBounds k x) k l (W.setCell ⟨A, k, none⟩ x) :=
  ⟨x, by rw [Array.getElem?_setIfInBounds_self]; simp [hk], h.store k x⟩

theorem wf_cvl2 {c : List Int} {n : Int} {l : List Rat2} {res : List Int} (h : WF c n l res) (hc : Cvl c) : Cvl res := by
  have h1 := hc.lo
  have h2 := hc.hi
  refine ⟨by rw [h.len]; exact h1, by rw [h.len]; exact h2, fun x hx => ?_⟩
  obtain ⟨k, hk, rfl⟩ := List.getElem_of_mem hx
  have hk' : k < c.length := by rw [← h.len]; exact hk
  have hb := h.bd k hk'
  have hcb := hc.holds _ (mem_getD hk')
  rw [List.getD_eq_getElem?_getD, List.getElem?_eq_getElem hk] at hb
  simp only [Option.getD_some] at hb
  omega

theorem red_dle {n d : Int} (h : 1 ≤ d) : (red n d).2 ≤ d := by
  obtain ⟨g, hg, _, h2, h3, _⟩ := red_spec n d h
  generalize (red n d).2 = b at *
  have : 1 * b ≤ g * b := Int.mul_le_mul_of_nonneg_right hg (by omega)
  omega
theorem share_d9 {c : List Int} {e r : Int} (hc : Cvl c) (he : 0 ≤ e) (hs : e ≤ tot c) (hr : r = 2 ∨ r = 3) {i : Nat} (hi : i < c.length) : ((shareL c e r).getD i (0, 0)).2 ≤ 9 := by
  have hh := hc.hi
  rw [share_frac, getD_map0 hi]
  refine Int.le_trans (red_dle (frQ_pos _ _ _)) ?_
  rcases hr with rfl | rfl
  · rw [(fr_2 c e).2]
    have := (levP_nonneg hc.pos he).2
    omega
  · rw [(fr_3 c e).2]
    have := (levP_nonneg hc.pos (e := tot c - e) (by omega)).2
    omega
theorem agV_ae {c : List Int} {n : Int} {l : List Rat2} (h : agV c n l = true) : awE c n l = 0 := by
  unfold agV at h
  rw [Bool.and_eq_true] at h
  have h1 := h.1
  unfold sV at h1
  rw [Bool.and_eq_true, decide_eq_true_iff] at h1
  exact h1.1
theorem agV_ar {c : List Int} {n : Int} {l : List Rat2} (h : agV c n l = true) : arA c l = true := by
  unfold agV at h
  rw [Bool.and_eq_true] at h
  exact (sV_parts h.1).2.1
theorem awE_two {c : List Int} {n : Int} {l : List Rat2} (h : askE c n = 0) : awE c n l = 0 ∨ awE c n l = 2 := by
  unfold awE
  rw [if_pos h]
  split
  · exact .inl rfl
  · exact .inr rfl

set_option maxRecDepth 100000 in
set_option maxHeartbeats 4000000 in
theorem TopFund_walk (v x : Value) (c : List Int) (l : List Rat2) (n : Int) (w : World) (hv : IntsAt w v c) (hx : RatsAt w x l) :
    Calls Try.prog 5 #[v, .int .i64 n, x] w fun e w' => e = .returned (.bool true) ∧ Below w.heap.size w w' := by
  have HV := Lib.hid hv
  have HX := Lib.hid hx
  have SN := Lib.hid sane_any
  obtain ⟨xa, xc, rfl, hxl, _⟩ := hx
  clear hv
  by_cases h40 : 40 < c.length
  · have L : Hid (decide (40 < c.length) = true) := Lib.hid (decide_eq_true h40)
    clear h40
    go_enter Try.func5, Try.ntmps5
    go_wp2_with fail
    refine (long_any _ _ _ HV.out).mono ?_
    rintro e w' ⟨rfl, rfl⟩
    rw [L.out]
    go_wp2_with fail
    refine (SN.out _).mono ?_
    rintro e w9 ⟨rfl, hb9⟩
    go_wp2
    go_ret
    exact ⟨rfl, hb9⟩
  · have L : Hid (decide (40 < c.length) = false) := Lib.hid (decide_eq_false h40)
    clear h40
    by_cases h41 : 40 < l.length
    · have h2' : ((40 : Int) < (l.length : Int)) := by omega
      go_enter Try.func5, Try.ntmps5
      go_wp2_with fail
      refine (long_any _ _ _ HV.out).mono ?_
      rintro e w' ⟨rfl, rfl⟩
      rw [L.out]
      go_wp2_with fail
      refine (SN.out _).mono ?_
      rintro e w9 ⟨rfl, hb9⟩
      go_wp2
      go_ret
      exact ⟨rfl, hb9⟩
    · have h2' : decide ((40 : Int) < (l.length : Int)) = false := decide_eq_false (by omega)
      clear h41
      cases hcv : cvl c with
      | false =>
        have CV := Lib.hid hcv
        clear hcv
        go_enter Try.func5, Try.ntmps5
        go_wp2_with fail
        refine (long_any _ _ _ HV.out).mono ?_
        rintro e w' ⟨rfl, rfl⟩
        rw [L.out]
        go_wp2_with fail
        refine (rValid_any _ _ _ HV.out).mono ?_
        rintro e w' ⟨rfl, rfl⟩
        rw [CV.out]
        go_wp2_with fail
        refine (SN.out _).mono ?_
        rintro e w9 ⟨rfl, hb9⟩
        go_wp2
        go_ret
        exact ⟨rfl, hb9⟩
      | true =>
        have CV := Lib.hid hcv
        have hc := (cvl_iff c).1 hcv
        have HH := Lib.hid hc
        by_cases hn0 : n < 0
        · have g0 : decide (n < 0) = true := decide_eq_true hn0
          clear hcv hc hn0
          go_enter Try.func5, Try.ntmps5
          go_wp2_with fail
          refine (long_any _ _ _ HV.out).mono ?_
          rintro e w' ⟨rfl, rfl⟩
          rw [L.out]
          go_wp2_with fail
          refine (rValid_any _ _ _ HV.out).mono ?_
          rintro e w' ⟨rfl, rfl⟩
          rw [CV.out]
          go_wp2_with fail
          refine (SN.out _).mono ?_
          rintro e w9 ⟨rfl, hb9⟩
          go_wp2
          go_ret
          exact ⟨rfl, hb9⟩
        · have g0 : decide (n < 0) = false := decide_eq_false hn0
          by_cases hn1 : tot c < n
          · have g1 : decide (tot c < n) = true := decide_eq_true hn1
            generalize ht : tot c = t at *
            have HT := Lib.hid ht
            clear hcv hc hn0 hn1 ht
            go_enter Try.func5, Try.ntmps5
            go_wp2_with fail
            refine (long_any _ _ _ HV.out).mono ?_
            rintro e w' ⟨rfl, rfl⟩
            rw [L.out]
            go_wp2_with fail
            refine (rValid_any _ _ _ HV.out).mono ?_
            rintro e w' ⟨rfl, rfl⟩
            rw [CV.out]
            go_wp2_with fail
            refine (total_any _ _ _ HV.out HH.out).mono ?_
            rintro e w' ⟨rfl, rfl⟩
            rw [HT.out]
            go_wp2_with fail
            refine (SN.out _).mono ?_
            rintro e w9 ⟨rfl, hb9⟩
            go_wp2
            go_ret
            exact ⟨rfl, hb9⟩
          · have g1 : decide (tot c < n) = false := decide_eq_false hn1
            have h1 : 0 ≤ n := by omega
            have h2 : n ≤ tot c := by omega
            have A := Lib.hid (askE_of hc h1 h2)
            have hlo := hc.lo
            have hhi := hc.hi
            have htt := hc.tot
            obtain ⟨b, off, cap, rfl, hcc⟩ := ints_cell HV.out (by omega)
            have HCC := Lib.hid hcc
            clear hcv hc hn0 hn1 hcc
            go_enter Try.func5, Try.ntmps5
            go_wp2_with fail
            refine (long_any _ _ _ HV.out).mono ?_
            rintro e w' ⟨rfl, rfl⟩
            rw [L.out]
            go_wp2_with fail
            refine (rValid_any _ _ _ HV.out).mono ?_
            rintro e w' ⟨rfl, rfl⟩
            rw [CV.out]
            go_wp2_with fail
            refine (total_any _ _ _ HV.out HH.out).mono ?_
            rintro e w' ⟨rfl, rfl⟩
            have FV := Lib.hid (show Five w.heap.size #[.slice none 0 0, .slice none 0 0, .slice none 0 0, .slice none 0 0, .slice none 0 0] (w.alloc (.cells #[.slice none 0 0, .slice none 0 0, .slice none 0 0, .slice none 0 0, .slice none 0 0] 36)) from ⟨World.alloc_heap_new w _, rfl⟩)
            have HB0 := Lib.hid ((Below.refl w.heap.size w).alloc (Nat.le_refl _) (.cells #[.slice none 0 0, .slice none 0 0, .slice none 0 0, .slice none 0 0, .slice none 0 0] 36))
            go_upto_region 4 with fail
            generalize w.alloc (.cells #[.slice none 0 0, .slice none 0 0, .slice none 0 0, .slice none 0 0, .slice none 0 0] 36) = w0 at *
            go_wp2
            go_loopw [8] (fun iv wr => ∃ (k : Nat) (arr : Array Value), 1 ≤ k ∧ k ≤ 5 ∧ iv = .int .i64 k ∧ Five w.heap.size arr wr ∧ Below w.heap.size w wr ∧ (3 < k → AtF w.heap.size arr 3 (shareL c n 3) wr) ∧ (4 < k → AtF w.heap.size arr 4 (shareL c n 4) wr)) (fun iv _ => 5 - (intOf iv).toNat)
            case atStart => exact ⟨1, _, by omega, by omega, rfl, FV.out, HB0.out, fun h => by omega, fun h => by omega⟩
            case round =>
              clear FV HB0
              obtain ⟨k, arr, hk1, hk5, rfl, hfv, hbw, hr3', hr4'⟩ := hrel
              have FV := Lib.hid hfv
              have HBW := Lib.hid hbw
              have R3 := Lib.hid hr3'
              have R4 := Lib.hid hr4'
              clear hfv hbw hr3' hr4'
              by_cases hk6 : k < 5
              · have hkr : 1 ≤ (k : Int) ∧ (k : Int) ≤ 4 := by omega
                have E0 := Lib.hid (shareE_good A.out hkr).1
                have SV := Lib.hid (shareE_good A.out hkr).2
                have SS := Lib.hid (share_sV A.out hkr)
                have WHF := Lib.hid (fun L hL => whole_facts (L := L) E0.out hL)
                have OK := Lib.hid (shr_okv (HH.out.shr2 h1 h2 hkr))
                have AG := Lib.hid (show k = 4 → agV c n (shareL c n (k : Int)) = true from fun h => by subst h; exact old_agrees A.out)
                have R34 := Lib.hid (show (k = 3 → shareL c n 3 = shareL c n (k : Int)) ∧ (k = 4 → shareL c n 4 = shareL c n (k : Int)) from ⟨fun h => by subst h; rfl, fun h => by subst h; rfl⟩)
                generalize hla : shareL c n (k : Int) = la at *
                have LA := Lib.hid hla
                have hll := OK.out.1
                have HLL := Lib.hid hll
                have hlp : 0 < la.length := by omega
                clear hla
                go_wp2_with fail
                refine (Share_any _ _ _ _ _ (HV.out.below HBW.out)).mono ?_
                rintro e w1 ⟨v1, rfl, ho1, hb1⟩
                rw [SV.out] at ho1
                rw [E0.out]
                obtain ⟨ba, ca, hva, hbb, _⟩ := OwnR.split ho1 hlp
                subst hva
                have HA1 := Lib.hid (show RB w.heap.size _ la w1 from ⟨ho1.at (by omega), fun a m q e => by
                  simp only [Value.slice.injEq, Option.some.injEq] at e
                  rw [← e.1]
                  have h := (Array.getElem?_eq_some_iff.1 FV.out.at').1
                  show ba ≠ w.heap.size
                  omega⟩)
                have HB1 := Lib.hid (below_trans HBW.out hb1)
                have F1 := Lib.hid (FV.out.below hb1)
                have HK1 := Lib.hid hb1
                clear ho1 hb1 hbb hll
                go_wp2_with fail
                refine (tShares_any _ _ _ _ _ _ (HV.out.below HB1.out) HA1.out.at').mono ?_
                rintro e w2 ⟨rfl, hb2⟩
                rw [SS.out.1, SS.out.2]
                have HA2 := Lib.hid (HA1.out.below hb2)
                have HB2 := Lib.hid (below_trans HB1.out hb2)
                have F2 := Lib.hid (F1.out.below hb2)
                have HK2 := Lib.hid (below_trans HK1.out hb2)
                clear hb2 HA1 F1
                go_wp2_with fail
                refine (tWhole_any _ _ _ _ _ (HV.out.below HB2.out)).mono ?_
                rintro e w3 ⟨ov, res, rfl, hr3, hb3, hbad, hgood⟩
                obtain ⟨LL, h5, h6⟩ := hgood E0.out
                have W := WHF.out LL h5
                rw [LA.out] at h6
                rw [← h6] at W
                have HW := Lib.hid W
                have HR3 := Lib.hid hr3
                rw [E0.out]
                have HA3 := Lib.hid (HA2.out.below hb3)
                have HB3 := Lib.hid (below_trans HB2.out hb3)
                have F3 := Lib.hid (F2.out.below hb3)
                have HK3 := Lib.hid (below_trans HK2.out hb3)
                clear hbad hgood h5 h6 W hr3 hb3 WHF HA2 F2
                have hrl := HW.out.len
                have HRL := Lib.hid hrl
                have CR := Lib.hid (wf_cvl2 HW.out HH.out)
                have TT := Lib.hid HW.out.tot
                obtain ⟨br, orr, cr, hre, _⟩ := ints_cell HR3.out (by omega)
                subst hre
                clear hrl
                rw [HRL.out] at HR3 ⊢
                rw [HLL.out] at HA3 ⊢
                go_wp2_with fail
                refine (total_any _ _ _ (show IntsAt w3 _ res by have h := HR3.out; exact h) CR.out).mono ?_
                rintro e w' ⟨rfl, rfl⟩
                rw [TT.out]
                go_wp2_with fail
                refine (tAgrees_any _ _ _ _ _ _ (HV.out.below HB3.out) (show RatsAt w3 _ la from HA3.out.at')).mono ?_
                rintro e w4 ⟨rfl, hb4⟩
                rw [SS.out.2]
                have HB4 := Lib.hid (below_trans HB3.out hb4)
                have F4 := Lib.hid (F3.out.below hb4)
                have HK4 := Lib.hid (below_trans HK3.out hb4)
                have HA4 := Lib.hid (HA3.out.below hb4)
                clear hb4 HA3 F3 HR3 hlp
                obtain ⟨qv, qc⟩ := F4.out.any (j := k) (by omega)
                have qk := F4.out.frozen k
                have hk5' : (k : Int) < 5 := by omega
                have FS := Lib.hid (F4.out.set k (.slice (some ⟨ba, 0, none⟩) c.length ca))
                have HBS := Lib.hid (HB4.out.setCell (p := ⟨w.heap.size, k, none⟩) (Nat.le_refl _) (.slice (some ⟨ba, 0, none⟩) c.length ca))
                have T3 : Hid (3 < k + 1 → AtF w.heap.size (arr.setIfInBounds k (.slice (some ⟨ba, 0, none⟩) c.length ca)) 3 (shareL c n 3) (w4.setCell ⟨w.heap.size, k, none⟩ (.slice (some ⟨ba, 0, none⟩) c.length ca))) := Lib.hid (fun h => by
                  by_cases h3 : k = 3
                  · rw [R34.out.1 h3]
                    subst h3
                    exact AtF.here HA4.out (by rw [F4.out.size]; omega)
                  · exact ((R3.out (by omega)).below HK4.out).other h3 _)
                have T4 : Hid (4 < k + 1 → AtF w.heap.size (arr.setIfInBounds k (.slice (some ⟨ba, 0, none⟩) c.length ca)) 4 (shareL c n 4) (w4.setCell ⟨w.heap.size, k, none⟩ (.slice (some ⟨ba, 0, none⟩) c.length ca))) := Lib.hid (fun h => by
                  have h4 : k = 4 := by omega
                  rw [R34.out.2 h4]
                  subst h4
                  exact AtF.here HA4.out (by rw [F4.out.size]; omega))
                go_upto_region 13 with fail
                by_cases hk4 : k = 4
                · rw [AG.out hk4]
                  have hk4b : ((k : Int) == 4) = true := by rw [beq_iff_eq]; omega
                  clear hk4
                  go_wp2
                  go_roundw
                  case rel => exact ⟨k + 1, _, by omega, by omega, by go_num, FS.out, HBS.out, T3.out, T4.out⟩
                  case measure => simp [intOf]; omega
                · have hk4b : ((k : Int) == 4) = false := beq_eq_false_iff_ne.2 (by omega)
                  clear hk4
                  generalize agV c n la = ag at *
                  go_wp2
                  go_roundw
                  case rel => exact ⟨k + 1, _, by omega, by omega, by go_num, FS.out, HBS.out, T3.out, T4.out⟩
                  case measure => simp [intOf]; omega
              · obtain rfl : k = 5 := by omega
                rw [show ((5 : Nat) : Int) = 5 from rfl]
                obtain ⟨s3, ha3, hr3⟩ := R3.out (by omega)
                obtain ⟨s4, ha4, hr4⟩ := R4.out (by omega)
                have RB3 := Lib.hid hr3.at'
                have RB4 := Lib.hid hr4.at'
                have Q3 := Lib.hid ha3
                have Q4 := Lib.hid ha4
                clear hr3 hr4 ha3 ha4
                have O3 := Lib.hid (shr_okv (HH.out.shr2 (r := 3) h1 h2 (by omega)))
                have O4 := Lib.hid (shr_okv (HH.out.shr2 (r := 4) h1 h2 (by omega)))
                have OO := Lib.hid (shr_okv (HH.out.shr2 (e := tot c - n) (r := 2) (by omega) (by omega) (by omega)))
                have D3 := Lib.hid (fun i hi => share_d9 (c := c) (e := n) (r := 3) HH.out h1 h2 (.inr rfl) (i := i) hi)
                have DO := Lib.hid (fun i hi => share_d9 (c := c) (e := tot c - n) (r := 2) HH.out (by omega) (by omega) (.inl rfl) (i := i) hi)
                have EQ := Lib.hid (side_fact (c := c) (e := n) (r := 3) (r' := 2) (fun x _ => sides_3 n x))
                have A2 := Lib.hid (askE_miss A.out)
                have S2 := Lib.hid (fun W q => Share_good (.slice (some ⟨b, off, none⟩) c.length cap) c (tot c - n) 2 W q A2.out (by omega))
                have SAME := Lib.hid (fun h => agree_same (c := c) (n := n) (l := l) h)
                have e0 : IntKind.i64.wrap (tot c - n) = tot c - n := IntWalk.i64_in _ (by omega)
                generalize shareL c n 3 = l3 at *
                generalize shareL c n 4 = l4 at *
                generalize shareL c (tot c - n) 2 = lo at *
                have n3 := O3.out.1
                have n4 := O4.out.1
                have no := OO.out.1
                obtain ⟨b3, o3, c3, _, hs3, hc3⟩ := rats_cell RB3.out (by omega)
                obtain ⟨b4, o4, c4, _, hs4, hc4⟩ := rats_cell RB4.out (by omega)
                subst hs3 hs4
                have HC3 := Lib.hid hc3
                have HC4 := Lib.hid hc4
                have n3' : c.length ≤ l3.length ∧ l3.length ≤ c.length := by omega
                have n4' : c.length ≤ l4.length ∧ l4.length ≤ c.length := by omega
                have NO := Lib.hid no
                clear n3 n4 no hc3 hc4 R3 R4
                go_wp2_with fail
                refine (total_any _ _ _ (HV.out.below HBW.out) HH.out).mono ?_
                rintro e w' ⟨rfl, rfl⟩
                go_wp2_with fail
                refine (S2.out _ (HV.out.below HBW.out)).mono ?_
                rintro e w1 ⟨v1, rfl, ha1, hb1⟩
                obtain ⟨bo, oo, co, _, hvo, hco⟩ := rats_cell ha1 (by rw [NO.out]; omega)
                subst hvo
                rw [NO.out]
                have HCO := Lib.hid hco
                have HB1 := Lib.hid (below_trans HBW.out hb1)
                have F1 := Lib.hid (FV.out.below hb1)
                have HK1 := Lib.hid hb1
                clear ha1 hb1 hco e0
                go_wp2_with fail
                refine (tAgrees_any _ _ _ _ _ _ (HV.out.below HB1.out) (HX.out.below HB1.out)).mono ?_
                rintro e w2 ⟨rfl, hb2⟩
                have HB2 := Lib.hid (below_trans HB1.out hb2)
                have F2 := Lib.hid (F1.out.below hb2)
                have HK2 := Lib.hid (below_trans HK1.out hb2)
                have HC32 := Lib.hid (fun j hj => And.intro (keep_cell HK2.out (HC3.out j hj).1) (keep_cell HK2.out (HC3.out j hj).2))
                have HC42 := Lib.hid (fun j hj => And.intro (keep_cell HK2.out (HC4.out j hj).1) (keep_cell HK2.out (HC4.out j hj).2))
                have HCO2 := Lib.hid (fun j hj => And.intro (keep_cell hb2 (HCO.out j hj).1) (keep_cell hb2 (HCO.out j hj).2))
                have HCC2 := Lib.hid (fun j hj => keep_cell HB2.out (HCC.out j hj))
                clear hb2 F1
                have AGF := Lib.hid (show agV c n l = true → l.length = c.length ∧ arA c l = true ∧ ∀ i, i < c.length → (l.getD i (0, 0)).1 * (l4.getD i (0, 0)).2 = (l4.getD i (0, 0)).1 * (l.getD i (0, 0)).2 from fun h => ⟨(SAME.out h).1, agV_ar h, (SAME.out h).2⟩)
                have AEF := Lib.hid (show (agV c n l = true ∧ awE c n l = 0) ∨ (agV c n l = false ∧ awE c n l = 0) ∨ (agV c n l = false ∧ awE c n l = 2) from by
                  cases hag : agV c n l with
                  | true => exact .inl ⟨rfl, agV_ae hag⟩
                  | false => rcases awE_two (l := l) A.out with h | h <;> simp [h])
                clear SAME
                generalize agV c n l = ag at *
                generalize awE c n l = ae at *
                clear h2'
                go_upto_region 20 with fail
                go_cut [166] (fun s166 wx => s166 = .bool false ∧ wx = w2)
                case first =>
                  rcases AEF.out with ⟨hg, ha⟩ | ⟨hg, ha⟩ | ⟨hg, ha⟩
                  · subst hg ha
                    have hll := (AGF.out rfl).1
                    have hle : ((l.length : Int) != (c.length : Int)) = false := by rw [hll, bne_self_eq_false]
                    clear hll
                    go_wp2_with fail
                    go_meet
                    exact ⟨rfl, rfl⟩
                  · subst hg ha
                    go_wp2_with fail
                    go_meet
                    exact ⟨rfl, rfl⟩
                  · subst hg ha
                    go_wp2_with fail
                    go_meet
                    exact ⟨rfl, rfl⟩
                case rest =>
                  obtain ⟨h166, hwc⟩ := hcut
                  subst h166
                  rw [hwc]
                  clear AEF hwc
                  go_wp2
                  go_loopw [20] (fun iv wr => ∃ j : Nat, j ≤ c.length ∧ iv = .int .i64 j ∧ Below w2.heap.size w2 wr) (fun iv _ => c.length - (intOf iv).toNat)
                  case atStart => exact ⟨0, Nat.zero_le _, rfl, Below.refl _ _⟩
                  case round =>
                    obtain ⟨j, hj, rfl, hbel⟩ := hrel
                    by_cases hlt : j < c.length
                    · have hlt' : (j : Int) < (c.length : Int) := by omega
                      have hl3 : (j : Int) < (l3.length : Int) := by omega
                      have hl4 : (j : Int) < (l4.length : Int) := by omega
                      obtain ⟨x0, d0⟩ := HC32.out j (by omega)
                      obtain ⟨y0, f0⟩ := HCO2.out j (by rw [NO.out]; exact hlt)
                      obtain ⟨u0, t0⟩ := HC42.out j (by omega)
                      have x1 := keep_cell hbel x0
                      have d1 := keep_cell hbel d0
                      have y1 := keep_cell hbel y0
                      have f1 := keep_cell hbel f0
                      have u1 := keep_cell hbel u0
                      have t1 := keep_cell hbel t0
                      have c1 := keep_cell hbel (HCC2.out j hlt)
                      have hx := O3.out.2 j hlt
                      have hy := OO.out.2 j hlt
                      have hz := O4.out.2 j hlt
                      have hd9 := D3.out j hlt
                      have hf9 := DO.out j hlt
                      have E := EQ.out j hlt
                      have hcb := HH.out.holds _ (mem_getD hlt)
                      have q3 := (F2.out.below hbel).cell Q3.out
                      have q4 := (F2.out.below hbel).cell Q4.out
                      clear x0 d0 y0 f0 u0 t0
                      generalize l3.getD j (0, 0) = xd at *
                      generalize lo.getD j (0, 0) = yd at *
                      generalize hzj : l4.getD j (0, 0) = zd at *
                      have HZJ := Lib.hid hzj
                      clear hzj
                      generalize c.getD j 0 = cl at *
                      obtain ⟨p, d⟩ := xd
                      obtain ⟨q, f⟩ := yd
                      obtain ⟨z, u⟩ := zd
                      simp only at x1 d1 y1 f1 u1 t1 hx hy hz hd9 hf9 E
                      have s1 : cl * d ≤ 1000 * d := Int.mul_le_mul_of_nonneg_right (by omega) (by omega)
                      have s2 : cl * f ≤ 1000 * f := Int.mul_le_mul_of_nonneg_right (by omega) (by omega)
                      have s3 : cl * u ≤ 1000 * u := Int.mul_le_mul_of_nonneg_right (by omega) (by omega)
                      have m0 : 0 ≤ cl * d := Int.mul_nonneg (by omega) (by omega)
                      have m1 : 0 ≤ p * f ∧ p * f ≤ 10000000 * 10000 := ⟨Int.mul_nonneg (by omega) (by omega), Int.mul_le_mul (by omega) (by omega) (by omega) (by omega)⟩
                      have m2 : 0 ≤ q * d ∧ q * d ≤ 10000000 * 10000 := ⟨Int.mul_nonneg (by omega) (by omega), Int.mul_le_mul (by omega) (by omega) (by omega) (by omega)⟩
                      have m3 : 0 ≤ cl * d * f ∧ cl * d * f ≤ 10000000 * 10000 := ⟨Int.mul_nonneg (by omega) (by omega), Int.mul_le_mul (by omega) (by omega) (by omega) (by omega)⟩
                      have hne : ((p * f + q * d) != (cl * d * f)) = false := by rw [bne_eq_false_iff_eq]; exact E
                      have v1 : decide (d < 1) = false := decide_eq_false (by omega)
                      have v2 : decide (f < 1) = false := decide_eq_false (by omega)
                      have v3 : decide (100 < d) = false := decide_eq_false (by omega)
                      have v4 : decide (100 < f) = false := decide_eq_false (by omega)
                      have hbEL := Lib.hid hbel
                      clear E hbel
                      have r1 : ∀ W, KB wr W → W.cell? ⟨w.heap.size, 3, none⟩ = some (.slice (some ⟨b3, o3, none⟩) l3.length c3) := fun W h => keep_cell h q3
                      have r2 : ∀ W, KB wr W → W.cell? ⟨b3, o3 + j * 2, none⟩ = some (.int .i64 p) := fun W h => keep_cell h x1
                      have r3 : ∀ W, KB wr W → W.cell? ⟨b3, o3 + j * 2 + 1, none⟩ = some (.int .i64 d) := fun W h => keep_cell h d1
                      have r4 : ∀ W, KB wr W → W.cell? ⟨bo, oo + j * 2, none⟩ = some (.int .i64 q) := fun W h => keep_cell h y1
                      have r5 : ∀ W, KB wr W → W.cell? ⟨bo, oo + j * 2 + 1, none⟩ = some (.int .i64 f) := fun W h => keep_cell h f1
                      clear x1 d1 y1 f1 q3
                      go_upto_region 25 with fail
                      go_cut [21, 22] (fun s21 s22 wx => ∃ g h : Nat, s21 = .pointer (some ⟨g, 0, none⟩) ∧ s22 = .pointer (some ⟨h, 0, none⟩) ∧ wx.cell? ⟨g, 0, none⟩ = some (.int .i64 p) ∧ wx.cell? ⟨g, 1, none⟩ = some (.int .i64 d) ∧ wx.cell? ⟨h, 0, none⟩ = some (.int .i64 q) ∧ wx.cell? ⟨h, 1, none⟩ = some (.int .i64 f) ∧ KB wr wx)
                      case first =>
                        go_region_held3 (fun W => KB wr W) (first | exact KB.drew (KB.refl _) | (unfold KB; repeat (first | assumption | exact Below.refl _ _ | refine Below.setCell ?_ (by first | omega | (simp; done) | (simp; omega)) _ | refine Below.drew ?_ | refine Below.alloc ?_ (by first | omega | (simp; done) | (simp; omega)) _))) (fail)
                        all_goals (go_wp2_with fail; go_meet)
                        all_goals exact ⟨_, _, rfl, rfl, by simp, by simp, by simp, by simp, KB.drew (KB.alloc (KB.alloc (KB.refl _) _) _)⟩
                      case rest =>
                        obtain ⟨g, h, rfl, rfl, g0, g1', h0, h1', hkb⟩ := hcut
                        clear r1 r2 r3 r4 r5
                        have c2 := keep_cell hkb c1
                        have HKB := Lib.hid hkb
                        go_wp2
                        refine wp_region_quiet_lit (by kernel_rfl) (by kernel_rfl) ?_
                        repeat (any_goals (first | go_big_quiet_step (fail) | quiet_step (fail)))
                        all_goals (refine wpQuiet_nil ?_; intro _ hw'; obtain ⟨nq, hw''⟩ := hw'; subst hw'')
                        obtain ⟨wd, hwd⟩ : ∃ wd, wd = wc.drewN nq := ⟨_, rfl⟩
                        have hkd : KB wr wd := by rw [hwd]; exact below_drewN HKB.out _
                        have q5 := keep_cell hkd q4
                        have u2 := keep_cell hkd u1
                        have t2 := keep_cell hkd t1
                        rw [← hwd]
                        clear hwd g0 g1' h0 h1' c2 c1 q4 u1 t1 hkb v1 v2 v3 v4 hne m0 m1 m2 m3
                        go_upto_region 29 with fail
                        have HKD := Lib.hid hkd
                        have t0' : (wd.alloc (.cells #[.int .i64 z, .int .i64 u] 23)).cell? ⟨wd.heap.size, 0, none⟩ = some (.int .i64 z) := by simp
                        have t1' : (wd.alloc (.cells #[.int .i64 z, .int .i64 u] 23)).cell? ⟨wd.heap.size, 1, none⟩ = some (.int .i64 u) := by simp
                        have hbz : Below w2.heap.size w2 (wd.alloc (.cells #[.int .i64 z, .int .i64 u] 23)) := (below_trans hbEL.out hkd).alloc (Nat.le_trans hbEL.out.size hkd.size) _
                        have HBZ := Lib.hid hbz
                        generalize wd.alloc (.cells #[.int .i64 z, .int .i64 u] 23) = we at *
                        clear q5 u2 t2 hkd hbz hbEL
                        cases ag with
                        | false =>
                          go_wp2
                          refine wp_region_quiet_lit (by kernel_rfl) (by kernel_rfl) ?_
                          repeat (any_goals (first | go_big_quiet_step (fail) | quiet_step (fail)))
                          all_goals (refine wpQuiet_nil ?_; intro _ hw'; obtain ⟨nq, hw''⟩ := hw'; subst hw'')
                          go_wp2
                          go_roundw
                          case rel => exact ⟨j + 1, by omega, by go_num, below_drewN HBZ.out _⟩
                          case measure => simp [intOf]; omega
                        | true =>
                          obtain ⟨hll, har, hsm⟩ := AGF.out rfl
                          have hab := awd_bd har (k := j) (by rw [hll]; exact hlt)
                          have hej := HZJ.out ▸ hsm j hlt
                          obtain ⟨bx, ox, cx, _, hvx, hcx⟩ := rats_cell (HX.out.below HB2.out) (by omega)
                          simp only [Value.slice.injEq] at hvx
                          obtain ⟨rfl, -, rfl⟩ := hvx
                          obtain ⟨ha1, hb1⟩ := hcx j (by omega)
                          have ha2 := keep_cell HBZ.out ha1
                          have hb2 := keep_cell HBZ.out hb1
                          have hjl : (j : Int) < (l.length : Int) := by omega
                          clear hll har hsm hcx ha1 hb1 AGF
                          generalize l.getD j (0, 0) = ad at *
                          obtain ⟨an, adn⟩ := ad
                          simp only at ha2 hb2 hab hej
                          have hne2 : ((an * u) != (z * adn)) = false := by rw [bne_eq_false_iff_eq]; exact hej
                          have k1 : -1000000000 * 10000 ≤ an * u ∧ an * u ≤ 1000000000 * 10000 := by
                            constructor
                            · have h := Int.mul_le_mul_of_nonneg_right (show -1000000000 ≤ an by omega) (show 0 ≤ u by omega)
                              omega
                            · have h := Int.mul_le_mul_of_nonneg_right (show an ≤ 1000000000 by omega) (show 0 ≤ u by omega)
                              omega
                          have k2 : 0 ≤ z * adn ∧ z * adn ≤ 10000000 * 1000000 := ⟨Int.mul_nonneg (by omega) (by omega), Int.mul_le_mul (by omega) (by omega) (by omega) (by omega)⟩
                          clear hej
                          go_wp2
                          refine wp_region_quiet_lit (by kernel_rfl) (by kernel_rfl) ?_
                          repeat (any_goals (first | go_big_quiet_step (fail) | quiet_step (fail)))
                          all_goals (refine wpQuiet_nil ?_; intro _ hw'; obtain ⟨nq, hw''⟩ := hw'; subst hw'')
                          go_wp2
                          go_roundw
                          case rel => exact ⟨j + 1, by omega, by go_num, below_drewN HBZ.out _⟩
                          case measure => simp [intOf]; omega
                    · have e : j = c.length := by omega
                      subst e
                      have hh := below_trans HB2.out hbel
                      have HHH := Lib.hid hh
                      clear hbel hh
                      go_wp2_with fail
                      refine (SN.out _).mono ?_
                      rintro e w9 ⟨rfl, hb9⟩
                      have hh := below_trans HHH.out hb9
                      go_wp2
                      go_ret
                      exact ⟨rfl, hh⟩

end Go.Proofs.Ytaakefjblldccaa
