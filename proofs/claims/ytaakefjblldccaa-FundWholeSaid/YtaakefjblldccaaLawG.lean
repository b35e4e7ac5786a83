/- The walk of the law FundWhole. -/
import Derived.Test.YtaakefjblldccaaWl
import Derived.Test.YtaakefjblldccaaLawE
namespace Go.Proofs.Ytaakefjblldccaa
open Go.RowKit

/-- An operation of a region that draws its order, taken first, whatever its value. -/
theorem takeX {P : Program} {ops : Array Oper} {Q : Exit → Act → World → Prop} {md : Region.Mode} {S : World → Prop} {i : Nat} {oi : Oper} {fuel : Nat} {listed : Array Bool} {a : Act} {w : World} (hi : ops[i]? = some oi)
    (hs : Region.noSelect ops = true) (hf : Region.free md ops listed i = true) (hr : (Region.ready md ops listed).contains i = true)
    (hQ : ∀ v c a w, Q (.panic c) (a.put oi.dst v) w → Q (.panic c) a w) (hw : Region.wanted oi (yielded ops a.tmps) = true) (hS : S w)
    (h : ∃ v, (∀ W, S W → (execOp a.eval oi).run P W = .ok (.value v) W) ∧ wpAnyH P md ops Q S fuel (listed.setIfInBounds i true) (a.put oi.dst v) w) : wpAnyH P md ops Q S (fuel + 1) listed a w := by
  obtain ⟨v, h1, h2⟩ := h
  exact wpAnyH_take hi hs hf hr (hQ v) (Or.inl ⟨hw, h1⟩) hS h2

structure Lst (l : List Rat2) (b : Nat) : Prop where
  lt : b < l.length
  le : ∀ i, i < l.length → (l.getD b (0, 0)).1 * (l.getD i (0, 0)).2 ≤ (l.getD i (0, 0)).1 * (l.getD b (0, 0)).2
  st : ∀ i, i < b → ¬ (l.getD i (0, 0)).1 * (l.getD b (0, 0)).2 ≤ (l.getD b (0, 0)).1 * (l.getD i (0, 0)).2
theorem lst_of {l : List Rat2} (hm : Mod l) (h0 : 0 < l.length) : Lst l (leI l l.length) := by
  obtain ⟨h1, h2⟩ := leI_first hm l.length (Nat.le_refl _)
  refine ⟨leI_lt h0 _ (Nat.le_refl _), fun i hi => ?_, fun i hi => ?_⟩
  · have := of_decide_eq_false (h1 i hi)
    omega
  · have := of_decide_eq_true (h2 i hi)
    omega

theorem wf_cvl {c : List Int} {n : Int} {l : List Rat2} {res : List Int} (h : WF c n l res) (hc : Cvl c) : Cvl res := by
  have h1 := hc.lo
  have h2 := hc.hi
  refine ⟨by rw [h.len]; exact h1, by rw [h.len]; exact h2, fun x hx => ?_⟩
  obtain ⟨k, hk, rfl⟩ := List.getElem_of_mem hx
  have hk' : k < c.length := by rw [← h.len]; exact hk
  have hb := h.bd k hk'
  have hcb := hc.holds _ (mem_getD hk')
  rw [List.getD_eq_getElem?_getD, List.getElem?_eq_getElem hk] at hb
  simp only [Option.getD_some] at hb
  omega


set_option maxRecDepth 100000 in
set_option maxHeartbeats 8000000 in
theorem FundWhole_walk (v : Value) (c : List Int) (n r : Int) (w : World) (hv : IntsAt w v c) :
    Calls Try.prog 14 #[v, .int .i64 n, .int .i64 r] w fun e w' => e = .returned (.bool true) ∧ Below w.heap.size w w' := by
  have HV := Lib.hid hv
  clear hv
  by_cases h40 : 40 < c.length
  · have L : Hid (decide (40 < c.length) = true) := Lib.hid (decide_eq_true h40)
    clear h40
    go_enter Try.func14, Try.ntmps14
    go_wp2_with fail
    refine (long_any _ _ _ HV.out).mono ?_
    rintro e w' ⟨rfl, rfl⟩
    rw [L.out]
    go_wp2_with fail
    refine (sane_any _).mono ?_
    rintro e w1 ⟨rfl, hb1⟩
    go_wp2
    go_ret
    exact ⟨rfl, hb1⟩
  · have L : Hid (decide (40 < c.length) = false) := Lib.hid (decide_eq_false h40)
    clear h40
    have SN := Lib.hid sane_any
    by_cases h0 : shareE c n r = 0
    · have E0 := Lib.hid h0
      obtain ⟨ha, hr0, hr1⟩ := shareE_zero h0
      obtain ⟨hc, hn0, hn1⟩ := askE_ok2 ha
      have HH := Lib.hid hc
      have hlo := hc.lo
      have hhi := hc.hi
      have ht := hc.tot
      have S1 := Lib.hid (fun W q => Share_good v c n r W q ha ⟨hr0, hr1⟩)
      have K := shOk h0
      have OA := Lib.hid K.okv
      have LS := Lib.hid (lst_of K.mod K.pos)
      have LV := Lib.hid (show leV c n r = ((leI (shareL c n r) (shareL c n r).length : Nat) : Int) by unfold leV; rw [if_pos h0])
      have WHF := Lib.hid (fun L hL => whole_facts (L := L) h0 hL)
      clear h0 ha hc K
      go_enter Try.func14, Try.ntmps14
      go_wp2_with fail
      refine (long_any _ _ _ HV.out).mono ?_
      rintro e w' ⟨rfl, rfl⟩
      rw [L.out]
      go_wp2_with fail
      refine (tWhole_any _ _ _ _ _ HV.out).mono ?_
      rintro e w1 ⟨ov, res, rfl, hr1', hb1, hbad, hgood⟩
      obtain ⟨LL, h2, h3⟩ := hgood E0.out
      have W := WHF.out LL h2
      rw [← h3] at W
      have HW := Lib.hid W
      have HR1 := Lib.hid hr1'
      have HB1 := Lib.hid hb1
      rw [E0.out]
      clear hbad hgood h2 h3 W hr1' hb1 WHF
      generalize shareL c n r = l at *
      go_wp2_with fail
      refine (S1.out _ (HV.out.below HB1.out)).mono ?_
      rintro e w2 ⟨v2, rfl, ha2, hb2⟩
      have HA2 := Lib.hid ha2
      have HB2 := Lib.hid (HB1.out.trans (hb2.mono HB1.out.size))
      have HR2 := Lib.hid (HR1.out.below hb2)
      clear ha2 hb2 HR1
      go_wp2_with fail
      refine (tLeast_any _ _ _ _ _ (HV.out.below HB2.out)).mono ?_
      rintro e w3 ⟨rfl, hb3⟩
      have HA3 := Lib.hid (HA2.out.below hb3)
      have HB3 := Lib.hid (HB2.out.trans (hb3.mono HB2.out.size))
      have HR3 := Lib.hid (HR2.out.below hb3)
      rw [E0.out, LV.out]
      clear hb3 HA2 HR2 LV S1
      have hbl := LS.out.lt
      have hll : l.length = c.length := OA.out.1
      generalize leI l l.length = bi at *
      have HLL := Lib.hid hll
      have hb0 : (bi : Int) < (c.length : Int) := by omega
      have hrl := HW.out.len
      have HRL := Lib.hid hrl
      have CR := Lib.hid (wf_cvl HW.out HH.out)
      obtain ⟨b, off, cap, rfl, hcc⟩ := ints_cell HV.out (by omega)
      obtain ⟨br, orr, cr, hre, hcr⟩ := ints_cell HR3.out (by omega)
      subst hre
      have HCC := Lib.hid hcc
      have HCR := Lib.hid hcr
      clear hcc hcr
      have TT := Lib.hid HW.out.tot
      clear hrl hll
      go_wp2_with fail
      refine (valid_ok _ _ _ _ _ (HV.out.below HB3.out) HA3.out HH.out OA.out).mono ?_
      rintro e w4 ⟨rfl, hb4⟩
      have HA4 := Lib.hid (HA3.out.below hb4)
      have HB4 := Lib.hid (HB3.out.trans (hb4.mono HB3.out.size))
      have HR4 := Lib.hid (HR3.out.below hb4)
      have HCR4 := Lib.hid (fun j hj => keep_cell hb4 (HCR.out j hj))
      clear hb4 HCR HR3
      have gb0 : decide ((bi : Int) < 0) = false := decide_eq_false (by omega)
      have gb1 : decide (c.length ≤ bi) = false := decide_eq_false (by omega)
      rw [HRL.out] at HR4 ⊢
      go_wp2_with fail
      refine (total_any _ _ _ (show IntsAt w4 _ res by have h := HR4.out; exact h) CR.out).mono ?_
      rintro e w' ⟨rfl, rfl⟩
      rw [TT.out]
      have hlla : c.length ≤ l.length := by rw [HLL.out]; exact Nat.le_refl _
      obtain ⟨ba, oa, ca, _, rfl, hla⟩ := rats_cell HA4.out (by omega)
      have RA := Lib.hid hla
      clear hla
      go_wp2
      go_loopw [13] (fun i wr => ∃ k : Nat, k ≤ c.length ∧ i = .int .i64 k ∧ Below w4.heap.size w4 wr) (fun i _ => c.length - (intOf i).toNat)
      case atStart => exact ⟨0, Nat.zero_le _, rfl, Below.refl _ _⟩
      case round =>
        obtain ⟨k, hk, rfl, hbel⟩ := hrel
        by_cases hlt : k < c.length
        · have hlt' : (k : Int) < (c.length : Int) := by omega
          have hkl : (k : Int) < (l.length : Int) := by omega
          have hbl' : (bi : Int) < (l.length : Int) := by omega
          obtain ⟨x0, d0⟩ := RA.out k (by omega)
          obtain ⟨y0, f0⟩ := RA.out bi hbl
          have x1 := keep_cell hbel x0
          have d1 := keep_cell hbel d0
          have y1 := keep_cell hbel y0
          have f1 := keep_cell hbel f0
          have c1 := keep_cell (below_trans HB4.out hbel) (HCC.out k hlt)
          have r1 := keep_cell hbel (HCR4.out k (by rw [HRL.out]; exact hlt))
          have hx := OA.out.2 k hlt
          have hy := OA.out.2 bi (by rw [← HLL.out]; exact hbl)
          have hcx := HH.out.holds _ (mem_getD hlt)
          have hcy := HH.out.holds _ (mem_getD (show bi < c.length by omega))
          have hnr := HW.out.near k hlt
          have hbd := HW.out.bd k hlt
          have hle := LS.out.le k (by omega)
          have HST := Lib.hid (fun (h : k < bi) => LS.out.st k h)
          have HBL := Lib.hid hbel
          clear x0 d0 y0 f0 hbel
          generalize l.getD k (0, 0) = xd at *
          generalize l.getD bi (0, 0) = yd at *
          generalize c.getD k 0 = cx at *
          generalize c.getD bi 0 = cy at *
          generalize res.getD k 0 = rx at *
          obtain ⟨p, d⟩ := xd
          obtain ⟨q, f⟩ := yd
          simp only at x1 d1 y1 f1 hx hy hnr hle HST
          have s1 : cx * d ≤ 1000 * d := Int.mul_le_mul_of_nonneg_right (by omega) (by omega)
          have s2 : cy * f ≤ 1000 * f := Int.mul_le_mul_of_nonneg_right (by omega) (by omega)
          have s3 : 0 ≤ rx * d := Int.mul_nonneg (by omega) (by omega)
          have s4 : rx * d ≤ cx * d := Int.mul_le_mul_of_nonneg_right (by omega) (by omega)
          have e1 : IntKind.i64.wrap (rx * d) = rx * d := IntWalk.i64_in _ (by omega)
          have e2 : IntKind.i64.wrap (rx * d - p) = rx * d - p := IntWalk.i64_in _ (by omega)
          have e3 : IntKind.i64.wrap (-d) = -d := IntWalk.i64_in _ (by omega)
          have t0 : 0 ≤ p * f ∧ p * f ≤ 10000000 * 10000 := ⟨Int.mul_nonneg (by omega) (by omega), Int.mul_le_mul (by omega) (by omega) (by omega) (by omega)⟩
          have t1 : 0 ≤ q * d ∧ q * d ≤ 10000000 * 10000 := ⟨Int.mul_nonneg (by omega) (by omega), Int.mul_le_mul (by omega) (by omega) (by omega) (by omega)⟩
          have M1 := Lib.hid (fun W => most_any q f p d W (by omega) (by omega))
          have M2 := Lib.hid (fun W => most_any p d q f W (by omega) (by omega))
          have HLE := Lib.hid hle
          obtain ⟨z, hz⟩ : ∃ z, z = rx * d - p := ⟨_, rfl⟩
          have g1 : decide (z ≤ -d) = false := decide_eq_false (by omega)
          have g2 : decide (d ≤ z) = false := decide_eq_false (by omega)
          have g3 : decide (rx < 0) = false := decide_eq_false (by omega)
          have g4 : decide (cx < rx) = false := decide_eq_false (by omega)
          have HZ := Lib.hid hz
          have HXY := Lib.hid (And.intro hx hy)
          clear s1 s2 s3 s4 t0 t1 hle hnr hz
          go_wp2
          refine wp_region_quiet_lit (by kernel_rfl) (by kernel_rfl) ?_
          repeat (any_goals (first | go_big_quiet_step (fail) | quiet_step (fail)))
          all_goals (refine wpQuiet_nil ?_; intro _ hw'; obtain ⟨nq, hw''⟩ := hw'; subst hw'')
          rw [← HZ.out]
          have HKB := Lib.hid (below_drewN (Below.refl wr.heap.size wr) nq)
          obtain ⟨wc, hwc⟩ : ∃ wc, wc = wr.drewN nq := ⟨_, rfl⟩
          rw [← hwc] at HKB ⊢
          clear hwc e1 e2
          have z1 : ∀ W, KB wc W → W.cell? ⟨b, off + k, none⟩ = some (.int .i64 cx) := fun W h => keep_cell (below_trans HKB.out h) c1
          have z2 : ∀ W, KB wc W → W.cell? ⟨br, orr + k, none⟩ = some (.int .i64 rx) := fun W h => keep_cell (below_trans HKB.out h) r1
          have z3 : ∀ W, KB wc W → W.cell? ⟨ba, oa + k * 2, none⟩ = some (.int .i64 p) := fun W h => keep_cell (below_trans HKB.out h) x1
          have z4 : ∀ W, KB wc W → W.cell? ⟨ba, oa + k * 2 + 1, none⟩ = some (.int .i64 d) := fun W h => keep_cell (below_trans HKB.out h) d1
          have z5 : ∀ W, KB wc W → W.cell? ⟨ba, oa + bi * 2, none⟩ = some (.int .i64 q) := fun W h => keep_cell (below_trans HKB.out h) y1
          have z6 : ∀ W, KB wc W → W.cell? ⟨ba, oa + bi * 2 + 1, none⟩ = some (.int .i64 f) := fun W h => keep_cell (below_trans HKB.out h) f1
          clear c1 r1 x1 d1 y1 f1
          have N1 := Lib.hid (fun W (hW : KB wc W) => (M1.out W).mono (R' := fun e w' => e = .returned (.bool true) ∧ KB wc w') (fun e w' ⟨h5, h6⟩ => ⟨by rw [h5, decide_eq_true HLE.out], KB.call hW h6⟩))
          by_cases hki : k < bi
          · have hd1 : decide (k < bi) = true := decide_eq_true hki
            have N2 := Lib.hid (fun W (hW : KB wc W) => (M2.out W).mono (R' := fun e w' => e = .returned (.bool false) ∧ KB wc w') (fun e w' ⟨h5, h6⟩ => ⟨by rw [h5, decide_eq_false (Int.not_le.2 (HST.out hki))], KB.call hW h6⟩))
            clear M1 M2 HST HLE hki
            go_wp2
            refine wp_region_held_drew (S := fun W => KB wc W) (by kernel_rfl) (KB.drew (KB.refl _)) (fun hHeld => ?_)
            refine takeX (i := 0) rfl (by kernel_rfl) (by kernel_rfl) (by kernel_rfl) (fun _ _ _ _ h => h) (by rfl) hHeld ?_
            apply Exists.intro
            apply And.intro
            · intro W3 hS3
              go_simp
              try rfl
            try simp only [Act.put, List.getElem_toArray, List.getElem_cons_zero, List.getElem_cons_succ, List.setIfInBounds_toArray, List.set_cons_zero, List.set_cons_succ]
            refine takeX (i := 1) rfl (by kernel_rfl) (by kernel_rfl) (by kernel_rfl) (fun _ _ _ _ h => h) (by rfl) hHeld ?_
            apply Exists.intro
            apply And.intro
            · intro W3 hS3
              go_simp
              try rfl
            try simp only [Act.put, List.getElem_toArray, List.getElem_cons_zero, List.getElem_cons_succ, List.setIfInBounds_toArray, List.set_cons_zero, List.set_cons_succ]
            refine takeX (i := 2) rfl (by kernel_rfl) (by kernel_rfl) (by kernel_rfl) (fun _ _ _ _ h => h) (by rfl) hHeld ?_
            apply Exists.intro
            apply And.intro
            · intro W3 hS3
              go_simp
              try rfl
            try simp only [Act.put, List.getElem_toArray, List.getElem_cons_zero, List.getElem_cons_succ, List.setIfInBounds_toArray, List.set_cons_zero, List.set_cons_succ]
            refine takeX (i := 3) rfl (by kernel_rfl) (by kernel_rfl) (by kernel_rfl) (fun _ _ _ _ h => h) (by rfl) hHeld ?_
            apply Exists.intro
            apply And.intro
            · intro W3 hS3
              go_simp
              try rfl
            try simp only [Act.put, List.getElem_toArray, List.getElem_cons_zero, List.getElem_cons_succ, List.setIfInBounds_toArray, List.set_cons_zero, List.set_cons_succ]
            refine takeX (i := 4) rfl (by kernel_rfl) (by kernel_rfl) (by kernel_rfl) (fun _ _ _ _ h => h) (by rfl) hHeld ?_
            apply Exists.intro
            apply And.intro
            · intro W3 hS3
              go_simp
              try rfl
            try simp only [Act.put, List.getElem_toArray, List.getElem_cons_zero, List.getElem_cons_succ, List.setIfInBounds_toArray, List.set_cons_zero, List.set_cons_succ]
            refine takeX (i := 5) rfl (by kernel_rfl) (by kernel_rfl) (by kernel_rfl) (fun _ _ _ _ h => h) (by rfl) hHeld ?_
            apply Exists.intro
            apply And.intro
            · intro W3 hS3
              go_simp
              try rfl
            try simp only [Act.put, List.getElem_toArray, List.getElem_cons_zero, List.getElem_cons_succ, List.setIfInBounds_toArray, List.set_cons_zero, List.set_cons_succ]
            refine takeX (i := 6) rfl (by kernel_rfl) (by kernel_rfl) (by kernel_rfl) (fun _ _ _ _ h => h) (by rfl) hHeld ?_
            apply Exists.intro
            apply And.intro
            · intro W3 hS3
              go_simp
              try rfl
            try simp only [Act.put, List.getElem_toArray, List.getElem_cons_zero, List.getElem_cons_succ, List.setIfInBounds_toArray, List.set_cons_zero, List.set_cons_succ]
            refine takeX (i := 7) rfl (by kernel_rfl) (by kernel_rfl) (by kernel_rfl) (fun _ _ _ _ h => h) (by rfl) hHeld ?_
            apply Exists.intro
            apply And.intro
            · intro W3 hS3
              go_simp
              try rfl
            try simp only [Act.put, List.getElem_toArray, List.getElem_cons_zero, List.getElem_cons_succ, List.setIfInBounds_toArray, List.set_cons_zero, List.set_cons_succ]
            refine takeX (i := 8) rfl (by kernel_rfl) (by kernel_rfl) (by kernel_rfl) (fun _ _ _ _ h => h) (by rfl) hHeld ?_
            apply Exists.intro
            apply And.intro
            · intro W3 hS3
              go_simp
              try rfl
            try simp only [Act.put, List.getElem_toArray, List.getElem_cons_zero, List.getElem_cons_succ, List.setIfInBounds_toArray, List.set_cons_zero, List.set_cons_succ]
            refine takeX (i := 9) rfl (by kernel_rfl) (by kernel_rfl) (by kernel_rfl) (fun _ _ _ _ h => h) (by rfl) hHeld ?_
            apply Exists.intro
            apply And.intro
            · intro W3 hS3
              go_simp
              try rfl
            try simp only [Act.put, List.getElem_toArray, List.getElem_cons_zero, List.getElem_cons_succ, List.setIfInBounds_toArray, List.set_cons_zero, List.set_cons_succ]
            refine takeX (i := 10) rfl (by kernel_rfl) (by kernel_rfl) (by kernel_rfl) (fun _ _ _ _ h => h) (by rfl) hHeld ?_
            apply Exists.intro
            apply And.intro
            · intro W3 hS3
              go_simp
              try rfl
            try simp only [Act.put, List.getElem_toArray, List.getElem_cons_zero, List.getElem_cons_succ, List.setIfInBounds_toArray, List.set_cons_zero, List.set_cons_succ]
            refine takeX (i := 11) rfl (by kernel_rfl) (by kernel_rfl) (by kernel_rfl) (fun _ _ _ _ h => h) (by rfl) hHeld ?_
            apply Exists.intro
            apply And.intro
            · intro W3 hS3
              go_simp
              try rfl
            try simp only [Act.put, List.getElem_toArray, List.getElem_cons_zero, List.getElem_cons_succ, List.setIfInBounds_toArray, List.set_cons_zero, List.set_cons_succ]
            refine takeX (i := 12) rfl (by kernel_rfl) (by kernel_rfl) (by kernel_rfl) (fun _ _ _ _ h => h) (by rfl) hHeld ?_
            apply Exists.intro
            apply And.intro
            · intro W3 hS3
              go_simp
              try rfl
            try simp only [Act.put, List.getElem_toArray, List.getElem_cons_zero, List.getElem_cons_succ, List.setIfInBounds_toArray, List.set_cons_zero, List.set_cons_succ]
            refine takeX (i := 13) rfl (by kernel_rfl) (by kernel_rfl) (by kernel_rfl) (fun _ _ _ _ h => h) (by rfl) hHeld ?_
            apply Exists.intro
            apply And.intro
            · intro W3 hS3
              go_simp
              try rfl
            try simp only [Act.put, List.getElem_toArray, List.getElem_cons_zero, List.getElem_cons_succ, List.setIfInBounds_toArray, List.set_cons_zero, List.set_cons_succ]
            refine takeX (i := 14) rfl (by kernel_rfl) (by kernel_rfl) (by kernel_rfl) (fun _ _ _ _ h => h) (by rfl) hHeld ?_
            apply Exists.intro
            apply And.intro
            · intro W3 hS3
              go_simp
              try rfl
            try simp only [Act.put, List.getElem_toArray, List.getElem_cons_zero, List.getElem_cons_succ, List.setIfInBounds_toArray, List.set_cons_zero, List.set_cons_succ]
            refine takeX (i := 15) rfl (by kernel_rfl) (by kernel_rfl) (by kernel_rfl) (fun _ _ _ _ h => h) (by rfl) hHeld ?_
            apply Exists.intro
            apply And.intro
            · intro W3 hS3
              go_simp
              try rfl
            try simp only [Act.put, List.getElem_toArray, List.getElem_cons_zero, List.getElem_cons_succ, List.setIfInBounds_toArray, List.set_cons_zero, List.set_cons_succ]
            refine takeX (i := 16) rfl (by kernel_rfl) (by kernel_rfl) (by kernel_rfl) (fun _ _ _ _ h => h) (by rfl) hHeld ?_
            apply Exists.intro
            apply And.intro
            · intro W3 hS3
              go_simp
              try rfl
            try simp only [Act.put, List.getElem_toArray, List.getElem_cons_zero, List.getElem_cons_succ, List.setIfInBounds_toArray, List.set_cons_zero, List.set_cons_succ]
            refine takeX (i := 17) rfl (by kernel_rfl) (by kernel_rfl) (by kernel_rfl) (fun _ _ _ _ h => h) (by rfl) hHeld ?_
            apply Exists.intro
            apply And.intro
            · intro W3 hS3
              go_simp
              try rfl
            try simp only [Act.put, List.getElem_toArray, List.getElem_cons_zero, List.getElem_cons_succ, List.setIfInBounds_toArray, List.set_cons_zero, List.set_cons_succ]
            refine takeX (i := 18) rfl (by kernel_rfl) (by kernel_rfl) (by kernel_rfl) (fun _ _ _ _ h => h) (by rfl) hHeld ?_
            apply Exists.intro
            apply And.intro
            · intro W3 hS3
              go_simp
              try rfl
            try simp only [Act.put, List.getElem_toArray, List.getElem_cons_zero, List.getElem_cons_succ, List.setIfInBounds_toArray, List.set_cons_zero, List.set_cons_succ]
            refine takeX (i := 19) rfl (by kernel_rfl) (by kernel_rfl) (by kernel_rfl) (fun _ _ _ _ h => h) (by rfl) hHeld ?_
            apply Exists.intro
            apply And.intro
            · intro W3 hS3
              go_simp
              try rfl
            try simp only [Act.put, List.getElem_toArray, List.getElem_cons_zero, List.getElem_cons_succ, List.setIfInBounds_toArray, List.set_cons_zero, List.set_cons_succ]
            refine takeX (i := 20) rfl (by kernel_rfl) (by kernel_rfl) (by kernel_rfl) (fun _ _ _ _ h => h) (by rfl) hHeld ?_
            apply Exists.intro
            apply And.intro
            · intro W3 hS3
              go_simp
              try rfl
            try simp only [Act.put, List.getElem_toArray, List.getElem_cons_zero, List.getElem_cons_succ, List.setIfInBounds_toArray, List.set_cons_zero, List.set_cons_succ]
            refine takeX (i := 21) rfl (by kernel_rfl) (by kernel_rfl) (by kernel_rfl) (fun _ _ _ _ h => h) (by rfl) hHeld ?_
            apply Exists.intro
            apply And.intro
            · intro W3 hS3
              go_simp
              try rfl
            try simp only [Act.put, List.getElem_toArray, List.getElem_cons_zero, List.getElem_cons_succ, List.setIfInBounds_toArray, List.set_cons_zero, List.set_cons_succ]
            refine takeX (i := 22) rfl (by kernel_rfl) (by kernel_rfl) (by kernel_rfl) (fun _ _ _ _ h => h) (by rfl) hHeld ?_
            apply Exists.intro
            apply And.intro
            · intro W3 hS3
              go_simp
              try rfl
            try simp only [Act.put, List.getElem_toArray, List.getElem_cons_zero, List.getElem_cons_succ, List.setIfInBounds_toArray, List.set_cons_zero, List.set_cons_succ]
            refine takeX (i := 23) rfl (by kernel_rfl) (by kernel_rfl) (by kernel_rfl) (fun _ _ _ _ h => h) (by rfl) hHeld ?_
            apply Exists.intro
            apply And.intro
            · intro W3 hS3
              go_simp
              try rfl
            try simp only [Act.put, List.getElem_toArray, List.getElem_cons_zero, List.getElem_cons_succ, List.setIfInBounds_toArray, List.set_cons_zero, List.set_cons_succ]
            refine takeX (i := 24) rfl (by kernel_rfl) (by kernel_rfl) (by kernel_rfl) (fun _ _ _ _ h => h) (by rfl) hHeld ?_
            apply Exists.intro
            apply And.intro
            · intro W3 hS3
              go_simp
              try rfl
            try simp only [Act.put, List.getElem_toArray, List.getElem_cons_zero, List.getElem_cons_succ, List.setIfInBounds_toArray, List.set_cons_zero, List.set_cons_succ]
            refine takeX (i := 25) rfl (by kernel_rfl) (by kernel_rfl) (by kernel_rfl) (fun _ _ _ _ h => h) (by rfl) hHeld ?_
            apply Exists.intro
            apply And.intro
            · intro W3 hS3
              go_simp
              try rfl
            try simp only [Act.put, List.getElem_toArray, List.getElem_cons_zero, List.getElem_cons_succ, List.setIfInBounds_toArray, List.set_cons_zero, List.set_cons_succ]
            refine takeX (i := 26) rfl (by kernel_rfl) (by kernel_rfl) (by kernel_rfl) (fun _ _ _ _ h => h) (by rfl) hHeld ?_
            apply Exists.intro
            apply And.intro
            · intro W3 hS3
              go_simp
              try rfl
            try simp only [Act.put, List.getElem_toArray, List.getElem_cons_zero, List.getElem_cons_succ, List.setIfInBounds_toArray, List.set_cons_zero, List.set_cons_succ]
            refine takeX (i := 27) rfl (by kernel_rfl) (by kernel_rfl) (by kernel_rfl) (fun _ _ _ _ h => h) (by rfl) hHeld ?_
            apply Exists.intro
            apply And.intro
            · intro W3 hS3
              go_simp
              try rfl
            try simp only [Act.put, List.getElem_toArray, List.getElem_cons_zero, List.getElem_cons_succ, List.setIfInBounds_toArray, List.set_cons_zero, List.set_cons_succ]
            refine takeX (i := 28) rfl (by kernel_rfl) (by kernel_rfl) (by kernel_rfl) (fun _ _ _ _ h => h) (by rfl) hHeld ?_
            apply Exists.intro
            apply And.intro
            · intro W3 hS3
              go_simp
              try rfl
            try simp only [Act.put, List.getElem_toArray, List.getElem_cons_zero, List.getElem_cons_succ, List.setIfInBounds_toArray, List.set_cons_zero, List.set_cons_succ]
            refine takeX (i := 29) rfl (by kernel_rfl) (by kernel_rfl) (by kernel_rfl) (fun _ _ _ _ h => h) (by rfl) hHeld ?_
            apply Exists.intro
            apply And.intro
            · intro W3 hS3
              go_simp
              try rfl
            try simp only [Act.put, List.getElem_toArray, List.getElem_cons_zero, List.getElem_cons_succ, List.setIfInBounds_toArray, List.set_cons_zero, List.set_cons_succ]
            refine takeX (i := 30) rfl (by kernel_rfl) (by kernel_rfl) (by kernel_rfl) (fun _ _ _ _ h => h) (by rfl) hHeld ?_
            apply Exists.intro
            apply And.intro
            · intro W3 hS3
              go_simp
              try rfl
            try simp only [Act.put, List.getElem_toArray, List.getElem_cons_zero, List.getElem_cons_succ, List.setIfInBounds_toArray, List.set_cons_zero, List.set_cons_succ]
            refine takeX (i := 31) rfl (by kernel_rfl) (by kernel_rfl) (by kernel_rfl) (fun _ _ _ _ h => h) (by rfl) hHeld ?_
            apply Exists.intro
            apply And.intro
            · intro W3 hS3
              go_simp
              try rfl
            try simp only [Act.put, List.getElem_toArray, List.getElem_cons_zero, List.getElem_cons_succ, List.setIfInBounds_toArray, List.set_cons_zero, List.set_cons_succ]
            refine takeX (i := 32) rfl (by kernel_rfl) (by kernel_rfl) (by kernel_rfl) (fun _ _ _ _ h => h) (by rfl) hHeld ?_
            apply Exists.intro
            apply And.intro
            · intro W3 hS3
              go_simp
              try rfl
            try simp only [Act.put, List.getElem_toArray, List.getElem_cons_zero, List.getElem_cons_succ, List.setIfInBounds_toArray, List.set_cons_zero, List.set_cons_succ]
            refine takeX (i := 33) rfl (by kernel_rfl) (by kernel_rfl) (by kernel_rfl) (fun _ _ _ _ h => h) (by rfl) hHeld ?_
            apply Exists.intro
            apply And.intro
            · intro W3 hS3
              go_simp
              try rfl
            try simp only [Act.put, List.getElem_toArray, List.getElem_cons_zero, List.getElem_cons_succ, List.setIfInBounds_toArray, List.set_cons_zero, List.set_cons_succ]
            refine takeX (i := 34) rfl (by kernel_rfl) (by kernel_rfl) (by kernel_rfl) (fun _ _ _ _ h => h) (by rfl) hHeld ?_
            apply Exists.intro
            apply And.intro
            · intro W3 hS3
              go_simp
              try rfl
            try simp only [Act.put, List.getElem_toArray, List.getElem_cons_zero, List.getElem_cons_succ, List.setIfInBounds_toArray, List.set_cons_zero, List.set_cons_succ]
            refine takeX (i := 35) rfl (by kernel_rfl) (by kernel_rfl) (by kernel_rfl) (fun _ _ _ _ h => h) (by rfl) hHeld ?_
            apply Exists.intro
            apply And.intro
            · intro W3 hS3
              go_simp
              try rfl
            try simp only [Act.put, List.getElem_toArray, List.getElem_cons_zero, List.getElem_cons_succ, List.setIfInBounds_toArray, List.set_cons_zero, List.set_cons_succ]
            refine takeX (i := 36) rfl (by kernel_rfl) (by kernel_rfl) (by kernel_rfl) (fun _ _ _ _ h => h) (by rfl) hHeld ?_
            apply Exists.intro
            apply And.intro
            · intro W3 hS3
              go_simp
              try rfl
            try simp only [Act.put, List.getElem_toArray, List.getElem_cons_zero, List.getElem_cons_succ, List.setIfInBounds_toArray, List.set_cons_zero, List.set_cons_succ]
            refine takeX (i := 37) rfl (by kernel_rfl) (by kernel_rfl) (by kernel_rfl) (fun _ _ _ _ h => h) (by rfl) hHeld ?_
            apply Exists.intro
            apply And.intro
            · intro W3 hS3
              go_simp
              try rfl
            try simp only [Act.put, List.getElem_toArray, List.getElem_cons_zero, List.getElem_cons_succ, List.setIfInBounds_toArray, List.set_cons_zero, List.set_cons_succ]
            refine takeX (i := 38) rfl (by kernel_rfl) (by kernel_rfl) (by kernel_rfl) (fun _ _ _ _ h => h) (by rfl) hHeld ?_
            apply Exists.intro
            apply And.intro
            · intro W3 hS3
              go_simp
              try rfl
            try simp only [Act.put, List.getElem_toArray, List.getElem_cons_zero, List.getElem_cons_succ, List.setIfInBounds_toArray, List.set_cons_zero, List.set_cons_succ]
            refine takeX (i := 39) rfl (by kernel_rfl) (by kernel_rfl) (by kernel_rfl) (fun _ _ _ _ h => h) (by rfl) hHeld ?_
            apply Exists.intro
            apply And.intro
            · intro W3 hS3
              go_simp
              try rfl
            try simp only [Act.put, List.getElem_toArray, List.getElem_cons_zero, List.getElem_cons_succ, List.setIfInBounds_toArray, List.set_cons_zero, List.set_cons_succ]
            refine takeX (i := 40) rfl (by kernel_rfl) (by kernel_rfl) (by kernel_rfl) (fun _ _ _ _ h => h) (by rfl) hHeld ?_
            apply Exists.intro
            apply And.intro
            · intro W3 hS3
              go_simp
              try rfl
            try simp only [Act.put, List.getElem_toArray, List.getElem_cons_zero, List.getElem_cons_succ, List.setIfInBounds_toArray, List.set_cons_zero, List.set_cons_succ]
            refine takeX (i := 41) rfl (by kernel_rfl) (by kernel_rfl) (by kernel_rfl) (fun _ _ _ _ h => h) (by rfl) hHeld ?_
            apply Exists.intro
            apply And.intro
            · intro W3 hS3
              go_simp
              try rfl
            try simp only [Act.put, List.getElem_toArray, List.getElem_cons_zero, List.getElem_cons_succ, List.setIfInBounds_toArray, List.set_cons_zero, List.set_cons_succ]
            refine takeX (i := 42) rfl (by kernel_rfl) (by kernel_rfl) (by kernel_rfl) (fun _ _ _ _ h => h) (by rfl) hHeld ?_
            apply Exists.intro
            apply And.intro
            · intro W3 hS3
              go_simp
              try rfl
            try simp only [Act.put, List.getElem_toArray, List.getElem_cons_zero, List.getElem_cons_succ, List.setIfInBounds_toArray, List.set_cons_zero, List.set_cons_succ]
            refine takeX (i := 43) rfl (by kernel_rfl) (by kernel_rfl) (by kernel_rfl) (fun _ _ _ _ h => h) (by rfl) hHeld ?_
            apply Exists.intro
            apply And.intro
            · intro W3 hS3
              go_simp
              try rfl
            try simp only [Act.put, List.getElem_toArray, List.getElem_cons_zero, List.getElem_cons_succ, List.setIfInBounds_toArray, List.set_cons_zero, List.set_cons_succ]
            refine wpAnyH_ready (rs := [44]) (by kernel_rfl) (by simp) ?_
            refine AllReadyH.cons rfl (fun K hK => ?_) AllReadyH.nil
            go_simp
            refine (N1.out _ hHeld).mono ?_
            rintro e w5 ⟨rfl, k5⟩
            go_wp2_with fail
            refine hK.out _ _ k5 (fun hHeld => ?_)
            clear hK K
            try simp only [Act.put, List.getElem_toArray, List.getElem_cons_zero, List.getElem_cons_succ, List.setIfInBounds_toArray, List.set_cons_zero, List.set_cons_succ]
            refine takeX (i := 45) rfl (by kernel_rfl) (by kernel_rfl) (by kernel_rfl) (fun _ _ _ _ h => h) (by rfl) hHeld ?_
            apply Exists.intro
            apply And.intro
            · intro W3 hS3
              go_simp
              try rfl
            try simp only [Act.put, List.getElem_toArray, List.getElem_cons_zero, List.getElem_cons_succ, List.setIfInBounds_toArray, List.set_cons_zero, List.set_cons_succ]
            refine takeX (i := 46) rfl (by kernel_rfl) (by kernel_rfl) (by kernel_rfl) (fun _ _ _ _ h => h) (by rfl) hHeld ?_
            apply Exists.intro
            apply And.intro
            · intro W3 hS3
              go_simp
              try rfl
            try simp only [Act.put, List.getElem_toArray, List.getElem_cons_zero, List.getElem_cons_succ, List.setIfInBounds_toArray, List.set_cons_zero, List.set_cons_succ]
            refine takeX (i := 47) rfl (by kernel_rfl) (by kernel_rfl) (by kernel_rfl) (fun _ _ _ _ h => h) (by rfl) hHeld ?_
            apply Exists.intro
            apply And.intro
            · intro W3 hS3
              go_simp
              try rfl
            try simp only [Act.put, List.getElem_toArray, List.getElem_cons_zero, List.getElem_cons_succ, List.setIfInBounds_toArray, List.set_cons_zero, List.set_cons_succ]
            refine takeX (i := 48) rfl (by kernel_rfl) (by kernel_rfl) (by kernel_rfl) (fun _ _ _ _ h => h) (by rfl) hHeld ?_
            apply Exists.intro
            apply And.intro
            · intro W3 hS3
              go_simp
              try rfl
            try simp only [Act.put, List.getElem_toArray, List.getElem_cons_zero, List.getElem_cons_succ, List.setIfInBounds_toArray, List.set_cons_zero, List.set_cons_succ]
            refine takeX (i := 49) rfl (by kernel_rfl) (by kernel_rfl) (by kernel_rfl) (fun _ _ _ _ h => h) (by rfl) hHeld ?_
            apply Exists.intro
            apply And.intro
            · intro W3 hS3
              go_simp
              try rfl
            try simp only [Act.put, List.getElem_toArray, List.getElem_cons_zero, List.getElem_cons_succ, List.setIfInBounds_toArray, List.set_cons_zero, List.set_cons_succ]
            refine takeX (i := 50) rfl (by kernel_rfl) (by kernel_rfl) (by kernel_rfl) (fun _ _ _ _ h => h) (by rfl) hHeld ?_
            apply Exists.intro
            apply And.intro
            · intro W3 hS3
              go_simp
              try rfl
            try simp only [Act.put, List.getElem_toArray, List.getElem_cons_zero, List.getElem_cons_succ, List.setIfInBounds_toArray, List.set_cons_zero, List.set_cons_succ]
            refine takeX (i := 51) rfl (by kernel_rfl) (by kernel_rfl) (by kernel_rfl) (fun _ _ _ _ h => h) (by rfl) hHeld ?_
            apply Exists.intro
            apply And.intro
            · intro W3 hS3
              go_simp
              try rfl
            try simp only [Act.put, List.getElem_toArray, List.getElem_cons_zero, List.getElem_cons_succ, List.setIfInBounds_toArray, List.set_cons_zero, List.set_cons_succ]
            refine takeX (i := 52) rfl (by kernel_rfl) (by kernel_rfl) (by kernel_rfl) (fun _ _ _ _ h => h) (by rfl) hHeld ?_
            apply Exists.intro
            apply And.intro
            · intro W3 hS3
              go_simp
              try rfl
            try simp only [Act.put, List.getElem_toArray, List.getElem_cons_zero, List.getElem_cons_succ, List.setIfInBounds_toArray, List.set_cons_zero, List.set_cons_succ]
            refine takeX (i := 53) rfl (by kernel_rfl) (by kernel_rfl) (by kernel_rfl) (fun _ _ _ _ h => h) (by rfl) hHeld ?_
            apply Exists.intro
            apply And.intro
            · intro W3 hS3
              go_simp
              try rfl
            try simp only [Act.put, List.getElem_toArray, List.getElem_cons_zero, List.getElem_cons_succ, List.setIfInBounds_toArray, List.set_cons_zero, List.set_cons_succ]
            refine takeX (i := 54) rfl (by kernel_rfl) (by kernel_rfl) (by kernel_rfl) (fun _ _ _ _ h => h) (by rfl) hHeld ?_
            apply Exists.intro
            apply And.intro
            · intro W3 hS3
              go_simp
              try rfl
            try simp only [Act.put, List.getElem_toArray, List.getElem_cons_zero, List.getElem_cons_succ, List.setIfInBounds_toArray, List.set_cons_zero, List.set_cons_succ]
            refine takeX (i := 55) rfl (by kernel_rfl) (by kernel_rfl) (by kernel_rfl) (fun _ _ _ _ h => h) (by rfl) hHeld ?_
            apply Exists.intro
            apply And.intro
            · intro W3 hS3
              go_simp
              try rfl
            try simp only [Act.put, List.getElem_toArray, List.getElem_cons_zero, List.getElem_cons_succ, List.setIfInBounds_toArray, List.set_cons_zero, List.set_cons_succ]
            refine takeX (i := 56) rfl (by kernel_rfl) (by kernel_rfl) (by kernel_rfl) (fun _ _ _ _ h => h) (by rfl) hHeld ?_
            apply Exists.intro
            apply And.intro
            · intro W3 hS3
              go_simp
              try rfl
            try simp only [Act.put, List.getElem_toArray, List.getElem_cons_zero, List.getElem_cons_succ, List.setIfInBounds_toArray, List.set_cons_zero, List.set_cons_succ]
            refine takeX (i := 57) rfl (by kernel_rfl) (by kernel_rfl) (by kernel_rfl) (fun _ _ _ _ h => h) (by rfl) hHeld ?_
            apply Exists.intro
            apply And.intro
            · intro W3 hS3
              go_simp
              try rfl
            try simp only [Act.put, List.getElem_toArray, List.getElem_cons_zero, List.getElem_cons_succ, List.setIfInBounds_toArray, List.set_cons_zero, List.set_cons_succ]
            refine takeX (i := 58) rfl (by kernel_rfl) (by kernel_rfl) (by kernel_rfl) (fun _ _ _ _ h => h) (by rfl) hHeld ?_
            apply Exists.intro
            apply And.intro
            · intro W3 hS3
              go_simp
              try rfl
            try simp only [Act.put, List.getElem_toArray, List.getElem_cons_zero, List.getElem_cons_succ, List.setIfInBounds_toArray, List.set_cons_zero, List.set_cons_succ]
            refine takeX (i := 59) rfl (by kernel_rfl) (by kernel_rfl) (by kernel_rfl) (fun _ _ _ _ h => h) (by rfl) hHeld ?_
            apply Exists.intro
            apply And.intro
            · intro W3 hS3
              go_simp
              try rfl
            try simp only [Act.put, List.getElem_toArray, List.getElem_cons_zero, List.getElem_cons_succ, List.setIfInBounds_toArray, List.set_cons_zero, List.set_cons_succ]
            refine wpAnyH_ready (rs := [60]) (by kernel_rfl) (by simp) ?_
            refine AllReadyH.cons rfl (fun K hK => ?_) AllReadyH.nil
            go_simp
            refine (N2.out _ hHeld).mono ?_
            rintro e w5 ⟨rfl, k5⟩
            go_wp2_with fail
            refine hK.out _ _ k5 (fun hHeld => ?_)
            clear hK K
            try simp only [Act.put, List.getElem_toArray, List.getElem_cons_zero, List.getElem_cons_succ, List.setIfInBounds_toArray, List.set_cons_zero, List.set_cons_succ]
            refine takeX (i := 61) rfl (by kernel_rfl) (by kernel_rfl) (by kernel_rfl) (fun _ _ _ _ h => h) (by rfl) hHeld ?_
            apply Exists.intro
            apply And.intro
            · intro W3 hS3
              go_simp
              try rfl
            try simp only [Act.put, List.getElem_toArray, List.getElem_cons_zero, List.getElem_cons_succ, List.setIfInBounds_toArray, List.set_cons_zero, List.set_cons_succ]
            refine takeX (i := 62) rfl (by kernel_rfl) (by kernel_rfl) (by kernel_rfl) (fun _ _ _ _ h => h) (by rfl) hHeld ?_
            apply Exists.intro
            apply And.intro
            · intro W3 hS3
              go_simp
              try rfl
            try simp only [Act.put, List.getElem_toArray, List.getElem_cons_zero, List.getElem_cons_succ, List.setIfInBounds_toArray, List.set_cons_zero, List.set_cons_succ]
            refine wpAnyH_done (by kernel_rfl) ?_ _
            have K5 := Lib.hid hHeld
            go_wp2
            go_roundw
            case rel => exact ⟨k + 1, by omega, by go_num, HBL.out.trans (Below.mono (KB.call (w := wr) HKB.out K5.out) HBL.out.size)⟩
            case measure => simp [intOf]; omega
          · have hd1 : decide (k < bi) = false := decide_eq_false hki
            clear M1 M2 HST HLE hki
            go_wp2
            refine wp_region_held_drew (S := fun W => KB wc W) (by kernel_rfl) (KB.drew (KB.refl _)) (fun hHeld => ?_)
            refine takeX (i := 0) rfl (by kernel_rfl) (by kernel_rfl) (by kernel_rfl) (fun _ _ _ _ h => h) (by rfl) hHeld ?_
            apply Exists.intro
            apply And.intro
            · intro W3 hS3
              go_simp
              try rfl
            try simp only [Act.put, List.getElem_toArray, List.getElem_cons_zero, List.getElem_cons_succ, List.setIfInBounds_toArray, List.set_cons_zero, List.set_cons_succ]
            refine takeX (i := 1) rfl (by kernel_rfl) (by kernel_rfl) (by kernel_rfl) (fun _ _ _ _ h => h) (by rfl) hHeld ?_
            apply Exists.intro
            apply And.intro
            · intro W3 hS3
              go_simp
              try rfl
            try simp only [Act.put, List.getElem_toArray, List.getElem_cons_zero, List.getElem_cons_succ, List.setIfInBounds_toArray, List.set_cons_zero, List.set_cons_succ]
            refine takeX (i := 2) rfl (by kernel_rfl) (by kernel_rfl) (by kernel_rfl) (fun _ _ _ _ h => h) (by rfl) hHeld ?_
            apply Exists.intro
            apply And.intro
            · intro W3 hS3
              go_simp
              try rfl
            try simp only [Act.put, List.getElem_toArray, List.getElem_cons_zero, List.getElem_cons_succ, List.setIfInBounds_toArray, List.set_cons_zero, List.set_cons_succ]
            refine takeX (i := 3) rfl (by kernel_rfl) (by kernel_rfl) (by kernel_rfl) (fun _ _ _ _ h => h) (by rfl) hHeld ?_
            apply Exists.intro
            apply And.intro
            · intro W3 hS3
              go_simp
              try rfl
            try simp only [Act.put, List.getElem_toArray, List.getElem_cons_zero, List.getElem_cons_succ, List.setIfInBounds_toArray, List.set_cons_zero, List.set_cons_succ]
            refine takeX (i := 4) rfl (by kernel_rfl) (by kernel_rfl) (by kernel_rfl) (fun _ _ _ _ h => h) (by rfl) hHeld ?_
            apply Exists.intro
            apply And.intro
            · intro W3 hS3
              go_simp
              try rfl
            try simp only [Act.put, List.getElem_toArray, List.getElem_cons_zero, List.getElem_cons_succ, List.setIfInBounds_toArray, List.set_cons_zero, List.set_cons_succ]
            refine takeX (i := 5) rfl (by kernel_rfl) (by kernel_rfl) (by kernel_rfl) (fun _ _ _ _ h => h) (by rfl) hHeld ?_
            apply Exists.intro
            apply And.intro
            · intro W3 hS3
              go_simp
              try rfl
            try simp only [Act.put, List.getElem_toArray, List.getElem_cons_zero, List.getElem_cons_succ, List.setIfInBounds_toArray, List.set_cons_zero, List.set_cons_succ]
            refine takeX (i := 6) rfl (by kernel_rfl) (by kernel_rfl) (by kernel_rfl) (fun _ _ _ _ h => h) (by rfl) hHeld ?_
            apply Exists.intro
            apply And.intro
            · intro W3 hS3
              go_simp
              try rfl
            try simp only [Act.put, List.getElem_toArray, List.getElem_cons_zero, List.getElem_cons_succ, List.setIfInBounds_toArray, List.set_cons_zero, List.set_cons_succ]
            refine takeX (i := 7) rfl (by kernel_rfl) (by kernel_rfl) (by kernel_rfl) (fun _ _ _ _ h => h) (by rfl) hHeld ?_
            apply Exists.intro
            apply And.intro
            · intro W3 hS3
              go_simp
              try rfl
            try simp only [Act.put, List.getElem_toArray, List.getElem_cons_zero, List.getElem_cons_succ, List.setIfInBounds_toArray, List.set_cons_zero, List.set_cons_succ]
            refine takeX (i := 8) rfl (by kernel_rfl) (by kernel_rfl) (by kernel_rfl) (fun _ _ _ _ h => h) (by rfl) hHeld ?_
            apply Exists.intro
            apply And.intro
            · intro W3 hS3
              go_simp
              try rfl
            try simp only [Act.put, List.getElem_toArray, List.getElem_cons_zero, List.getElem_cons_succ, List.setIfInBounds_toArray, List.set_cons_zero, List.set_cons_succ]
            refine takeX (i := 9) rfl (by kernel_rfl) (by kernel_rfl) (by kernel_rfl) (fun _ _ _ _ h => h) (by rfl) hHeld ?_
            apply Exists.intro
            apply And.intro
            · intro W3 hS3
              go_simp
              try rfl
            try simp only [Act.put, List.getElem_toArray, List.getElem_cons_zero, List.getElem_cons_succ, List.setIfInBounds_toArray, List.set_cons_zero, List.set_cons_succ]
            refine takeX (i := 10) rfl (by kernel_rfl) (by kernel_rfl) (by kernel_rfl) (fun _ _ _ _ h => h) (by rfl) hHeld ?_
            apply Exists.intro
            apply And.intro
            · intro W3 hS3
              go_simp
              try rfl
            try simp only [Act.put, List.getElem_toArray, List.getElem_cons_zero, List.getElem_cons_succ, List.setIfInBounds_toArray, List.set_cons_zero, List.set_cons_succ]
            refine takeX (i := 11) rfl (by kernel_rfl) (by kernel_rfl) (by kernel_rfl) (fun _ _ _ _ h => h) (by rfl) hHeld ?_
            apply Exists.intro
            apply And.intro
            · intro W3 hS3
              go_simp
              try rfl
            try simp only [Act.put, List.getElem_toArray, List.getElem_cons_zero, List.getElem_cons_succ, List.setIfInBounds_toArray, List.set_cons_zero, List.set_cons_succ]
            refine takeX (i := 12) rfl (by kernel_rfl) (by kernel_rfl) (by kernel_rfl) (fun _ _ _ _ h => h) (by rfl) hHeld ?_
            apply Exists.intro
            apply And.intro
            · intro W3 hS3
              go_simp
              try rfl
            try simp only [Act.put, List.getElem_toArray, List.getElem_cons_zero, List.getElem_cons_succ, List.setIfInBounds_toArray, List.set_cons_zero, List.set_cons_succ]
            refine takeX (i := 13) rfl (by kernel_rfl) (by kernel_rfl) (by kernel_rfl) (fun _ _ _ _ h => h) (by rfl) hHeld ?_
            apply Exists.intro
            apply And.intro
            · intro W3 hS3
              go_simp
              try rfl
            try simp only [Act.put, List.getElem_toArray, List.getElem_cons_zero, List.getElem_cons_succ, List.setIfInBounds_toArray, List.set_cons_zero, List.set_cons_succ]
            refine takeX (i := 14) rfl (by kernel_rfl) (by kernel_rfl) (by kernel_rfl) (fun _ _ _ _ h => h) (by rfl) hHeld ?_
            apply Exists.intro
            apply And.intro
            · intro W3 hS3
              go_simp
              try rfl
            try simp only [Act.put, List.getElem_toArray, List.getElem_cons_zero, List.getElem_cons_succ, List.setIfInBounds_toArray, List.set_cons_zero, List.set_cons_succ]
            refine takeX (i := 15) rfl (by kernel_rfl) (by kernel_rfl) (by kernel_rfl) (fun _ _ _ _ h => h) (by rfl) hHeld ?_
            apply Exists.intro
            apply And.intro
            · intro W3 hS3
              go_simp
              try rfl
            try simp only [Act.put, List.getElem_toArray, List.getElem_cons_zero, List.getElem_cons_succ, List.setIfInBounds_toArray, List.set_cons_zero, List.set_cons_succ]
            refine takeX (i := 16) rfl (by kernel_rfl) (by kernel_rfl) (by kernel_rfl) (fun _ _ _ _ h => h) (by rfl) hHeld ?_
            apply Exists.intro
            apply And.intro
            · intro W3 hS3
              go_simp
              try rfl
            try simp only [Act.put, List.getElem_toArray, List.getElem_cons_zero, List.getElem_cons_succ, List.setIfInBounds_toArray, List.set_cons_zero, List.set_cons_succ]
            refine takeX (i := 17) rfl (by kernel_rfl) (by kernel_rfl) (by kernel_rfl) (fun _ _ _ _ h => h) (by rfl) hHeld ?_
            apply Exists.intro
            apply And.intro
            · intro W3 hS3
              go_simp
              try rfl
            try simp only [Act.put, List.getElem_toArray, List.getElem_cons_zero, List.getElem_cons_succ, List.setIfInBounds_toArray, List.set_cons_zero, List.set_cons_succ]
            refine takeX (i := 18) rfl (by kernel_rfl) (by kernel_rfl) (by kernel_rfl) (fun _ _ _ _ h => h) (by rfl) hHeld ?_
            apply Exists.intro
            apply And.intro
            · intro W3 hS3
              go_simp
              try rfl
            try simp only [Act.put, List.getElem_toArray, List.getElem_cons_zero, List.getElem_cons_succ, List.setIfInBounds_toArray, List.set_cons_zero, List.set_cons_succ]
            refine takeX (i := 19) rfl (by kernel_rfl) (by kernel_rfl) (by kernel_rfl) (fun _ _ _ _ h => h) (by rfl) hHeld ?_
            apply Exists.intro
            apply And.intro
            · intro W3 hS3
              go_simp
              try rfl
            try simp only [Act.put, List.getElem_toArray, List.getElem_cons_zero, List.getElem_cons_succ, List.setIfInBounds_toArray, List.set_cons_zero, List.set_cons_succ]
            refine takeX (i := 20) rfl (by kernel_rfl) (by kernel_rfl) (by kernel_rfl) (fun _ _ _ _ h => h) (by rfl) hHeld ?_
            apply Exists.intro
            apply And.intro
            · intro W3 hS3
              go_simp
              try rfl
            try simp only [Act.put, List.getElem_toArray, List.getElem_cons_zero, List.getElem_cons_succ, List.setIfInBounds_toArray, List.set_cons_zero, List.set_cons_succ]
            refine takeX (i := 21) rfl (by kernel_rfl) (by kernel_rfl) (by kernel_rfl) (fun _ _ _ _ h => h) (by rfl) hHeld ?_
            apply Exists.intro
            apply And.intro
            · intro W3 hS3
              go_simp
              try rfl
            try simp only [Act.put, List.getElem_toArray, List.getElem_cons_zero, List.getElem_cons_succ, List.setIfInBounds_toArray, List.set_cons_zero, List.set_cons_succ]
            refine takeX (i := 22) rfl (by kernel_rfl) (by kernel_rfl) (by kernel_rfl) (fun _ _ _ _ h => h) (by rfl) hHeld ?_
            apply Exists.intro
            apply And.intro
            · intro W3 hS3
              go_simp
              try rfl
            try simp only [Act.put, List.getElem_toArray, List.getElem_cons_zero, List.getElem_cons_succ, List.setIfInBounds_toArray, List.set_cons_zero, List.set_cons_succ]
            refine takeX (i := 23) rfl (by kernel_rfl) (by kernel_rfl) (by kernel_rfl) (fun _ _ _ _ h => h) (by rfl) hHeld ?_
            apply Exists.intro
            apply And.intro
            · intro W3 hS3
              go_simp
              try rfl
            try simp only [Act.put, List.getElem_toArray, List.getElem_cons_zero, List.getElem_cons_succ, List.setIfInBounds_toArray, List.set_cons_zero, List.set_cons_succ]
            refine takeX (i := 24) rfl (by kernel_rfl) (by kernel_rfl) (by kernel_rfl) (fun _ _ _ _ h => h) (by rfl) hHeld ?_
            apply Exists.intro
            apply And.intro
            · intro W3 hS3
              go_simp
              try rfl
            try simp only [Act.put, List.getElem_toArray, List.getElem_cons_zero, List.getElem_cons_succ, List.setIfInBounds_toArray, List.set_cons_zero, List.set_cons_succ]
            refine takeX (i := 25) rfl (by kernel_rfl) (by kernel_rfl) (by kernel_rfl) (fun _ _ _ _ h => h) (by rfl) hHeld ?_
            apply Exists.intro
            apply And.intro
            · intro W3 hS3
              go_simp
              try rfl
            try simp only [Act.put, List.getElem_toArray, List.getElem_cons_zero, List.getElem_cons_succ, List.setIfInBounds_toArray, List.set_cons_zero, List.set_cons_succ]
            refine takeX (i := 26) rfl (by kernel_rfl) (by kernel_rfl) (by kernel_rfl) (fun _ _ _ _ h => h) (by rfl) hHeld ?_
            apply Exists.intro
            apply And.intro
            · intro W3 hS3
              go_simp
              try rfl
            try simp only [Act.put, List.getElem_toArray, List.getElem_cons_zero, List.getElem_cons_succ, List.setIfInBounds_toArray, List.set_cons_zero, List.set_cons_succ]
            refine takeX (i := 27) rfl (by kernel_rfl) (by kernel_rfl) (by kernel_rfl) (fun _ _ _ _ h => h) (by rfl) hHeld ?_
            apply Exists.intro
            apply And.intro
            · intro W3 hS3
              go_simp
              try rfl
            try simp only [Act.put, List.getElem_toArray, List.getElem_cons_zero, List.getElem_cons_succ, List.setIfInBounds_toArray, List.set_cons_zero, List.set_cons_succ]
            refine takeX (i := 28) rfl (by kernel_rfl) (by kernel_rfl) (by kernel_rfl) (fun _ _ _ _ h => h) (by rfl) hHeld ?_
            apply Exists.intro
            apply And.intro
            · intro W3 hS3
              go_simp
              try rfl
            try simp only [Act.put, List.getElem_toArray, List.getElem_cons_zero, List.getElem_cons_succ, List.setIfInBounds_toArray, List.set_cons_zero, List.set_cons_succ]
            refine takeX (i := 29) rfl (by kernel_rfl) (by kernel_rfl) (by kernel_rfl) (fun _ _ _ _ h => h) (by rfl) hHeld ?_
            apply Exists.intro
            apply And.intro
            · intro W3 hS3
              go_simp
              try rfl
            try simp only [Act.put, List.getElem_toArray, List.getElem_cons_zero, List.getElem_cons_succ, List.setIfInBounds_toArray, List.set_cons_zero, List.set_cons_succ]
            refine takeX (i := 30) rfl (by kernel_rfl) (by kernel_rfl) (by kernel_rfl) (fun _ _ _ _ h => h) (by rfl) hHeld ?_
            apply Exists.intro
            apply And.intro
            · intro W3 hS3
              go_simp
              try rfl
            try simp only [Act.put, List.getElem_toArray, List.getElem_cons_zero, List.getElem_cons_succ, List.setIfInBounds_toArray, List.set_cons_zero, List.set_cons_succ]
            refine takeX (i := 31) rfl (by kernel_rfl) (by kernel_rfl) (by kernel_rfl) (fun _ _ _ _ h => h) (by rfl) hHeld ?_
            apply Exists.intro
            apply And.intro
            · intro W3 hS3
              go_simp
              try rfl
            try simp only [Act.put, List.getElem_toArray, List.getElem_cons_zero, List.getElem_cons_succ, List.setIfInBounds_toArray, List.set_cons_zero, List.set_cons_succ]
            refine takeX (i := 32) rfl (by kernel_rfl) (by kernel_rfl) (by kernel_rfl) (fun _ _ _ _ h => h) (by rfl) hHeld ?_
            apply Exists.intro
            apply And.intro
            · intro W3 hS3
              go_simp
              try rfl
            try simp only [Act.put, List.getElem_toArray, List.getElem_cons_zero, List.getElem_cons_succ, List.setIfInBounds_toArray, List.set_cons_zero, List.set_cons_succ]
            refine takeX (i := 33) rfl (by kernel_rfl) (by kernel_rfl) (by kernel_rfl) (fun _ _ _ _ h => h) (by rfl) hHeld ?_
            apply Exists.intro
            apply And.intro
            · intro W3 hS3
              go_simp
              try rfl
            try simp only [Act.put, List.getElem_toArray, List.getElem_cons_zero, List.getElem_cons_succ, List.setIfInBounds_toArray, List.set_cons_zero, List.set_cons_succ]
            refine takeX (i := 34) rfl (by kernel_rfl) (by kernel_rfl) (by kernel_rfl) (fun _ _ _ _ h => h) (by rfl) hHeld ?_
            apply Exists.intro
            apply And.intro
            · intro W3 hS3
              go_simp
              try rfl
            try simp only [Act.put, List.getElem_toArray, List.getElem_cons_zero, List.getElem_cons_succ, List.setIfInBounds_toArray, List.set_cons_zero, List.set_cons_succ]
            refine takeX (i := 35) rfl (by kernel_rfl) (by kernel_rfl) (by kernel_rfl) (fun _ _ _ _ h => h) (by rfl) hHeld ?_
            apply Exists.intro
            apply And.intro
            · intro W3 hS3
              go_simp
              try rfl
            try simp only [Act.put, List.getElem_toArray, List.getElem_cons_zero, List.getElem_cons_succ, List.setIfInBounds_toArray, List.set_cons_zero, List.set_cons_succ]
            refine takeX (i := 36) rfl (by kernel_rfl) (by kernel_rfl) (by kernel_rfl) (fun _ _ _ _ h => h) (by rfl) hHeld ?_
            apply Exists.intro
            apply And.intro
            · intro W3 hS3
              go_simp
              try rfl
            try simp only [Act.put, List.getElem_toArray, List.getElem_cons_zero, List.getElem_cons_succ, List.setIfInBounds_toArray, List.set_cons_zero, List.set_cons_succ]
            refine takeX (i := 37) rfl (by kernel_rfl) (by kernel_rfl) (by kernel_rfl) (fun _ _ _ _ h => h) (by rfl) hHeld ?_
            apply Exists.intro
            apply And.intro
            · intro W3 hS3
              go_simp
              try rfl
            try simp only [Act.put, List.getElem_toArray, List.getElem_cons_zero, List.getElem_cons_succ, List.setIfInBounds_toArray, List.set_cons_zero, List.set_cons_succ]
            refine takeX (i := 38) rfl (by kernel_rfl) (by kernel_rfl) (by kernel_rfl) (fun _ _ _ _ h => h) (by rfl) hHeld ?_
            apply Exists.intro
            apply And.intro
            · intro W3 hS3
              go_simp
              try rfl
            try simp only [Act.put, List.getElem_toArray, List.getElem_cons_zero, List.getElem_cons_succ, List.setIfInBounds_toArray, List.set_cons_zero, List.set_cons_succ]
            refine takeX (i := 39) rfl (by kernel_rfl) (by kernel_rfl) (by kernel_rfl) (fun _ _ _ _ h => h) (by rfl) hHeld ?_
            apply Exists.intro
            apply And.intro
            · intro W3 hS3
              go_simp
              try rfl
            try simp only [Act.put, List.getElem_toArray, List.getElem_cons_zero, List.getElem_cons_succ, List.setIfInBounds_toArray, List.set_cons_zero, List.set_cons_succ]
            refine takeX (i := 40) rfl (by kernel_rfl) (by kernel_rfl) (by kernel_rfl) (fun _ _ _ _ h => h) (by rfl) hHeld ?_
            apply Exists.intro
            apply And.intro
            · intro W3 hS3
              go_simp
              try rfl
            try simp only [Act.put, List.getElem_toArray, List.getElem_cons_zero, List.getElem_cons_succ, List.setIfInBounds_toArray, List.set_cons_zero, List.set_cons_succ]
            refine takeX (i := 41) rfl (by kernel_rfl) (by kernel_rfl) (by kernel_rfl) (fun _ _ _ _ h => h) (by rfl) hHeld ?_
            apply Exists.intro
            apply And.intro
            · intro W3 hS3
              go_simp
              try rfl
            try simp only [Act.put, List.getElem_toArray, List.getElem_cons_zero, List.getElem_cons_succ, List.setIfInBounds_toArray, List.set_cons_zero, List.set_cons_succ]
            refine takeX (i := 42) rfl (by kernel_rfl) (by kernel_rfl) (by kernel_rfl) (fun _ _ _ _ h => h) (by rfl) hHeld ?_
            apply Exists.intro
            apply And.intro
            · intro W3 hS3
              go_simp
              try rfl
            try simp only [Act.put, List.getElem_toArray, List.getElem_cons_zero, List.getElem_cons_succ, List.setIfInBounds_toArray, List.set_cons_zero, List.set_cons_succ]
            refine takeX (i := 43) rfl (by kernel_rfl) (by kernel_rfl) (by kernel_rfl) (fun _ _ _ _ h => h) (by rfl) hHeld ?_
            apply Exists.intro
            apply And.intro
            · intro W3 hS3
              go_simp
              try rfl
            try simp only [Act.put, List.getElem_toArray, List.getElem_cons_zero, List.getElem_cons_succ, List.setIfInBounds_toArray, List.set_cons_zero, List.set_cons_succ]
            refine wpAnyH_ready (rs := [44]) (by kernel_rfl) (by simp) ?_
            refine AllReadyH.cons rfl (fun K hK => ?_) AllReadyH.nil
            go_simp
            refine (N1.out _ hHeld).mono ?_
            rintro e w5 ⟨rfl, k5⟩
            go_wp2_with fail
            refine hK.out _ _ k5 (fun hHeld => ?_)
            clear hK K
            try simp only [Act.put, List.getElem_toArray, List.getElem_cons_zero, List.getElem_cons_succ, List.setIfInBounds_toArray, List.set_cons_zero, List.set_cons_succ]
            refine takeX (i := 45) rfl (by kernel_rfl) (by kernel_rfl) (by kernel_rfl) (fun _ _ _ _ h => h) (by rfl) hHeld ?_
            apply Exists.intro
            apply And.intro
            · intro W3 hS3
              go_simp
              try rfl
            try simp only [Act.put, List.getElem_toArray, List.getElem_cons_zero, List.getElem_cons_succ, List.setIfInBounds_toArray, List.set_cons_zero, List.set_cons_succ]
            refine takeX (i := 46) rfl (by kernel_rfl) (by kernel_rfl) (by kernel_rfl) (fun _ _ _ _ h => h) (by rfl) hHeld ?_
            apply Exists.intro
            apply And.intro
            · intro W3 hS3
              go_simp
              try rfl
            try simp only [Act.put, List.getElem_toArray, List.getElem_cons_zero, List.getElem_cons_succ, List.setIfInBounds_toArray, List.set_cons_zero, List.set_cons_succ]
            refine takeX (i := 47) rfl (by kernel_rfl) (by kernel_rfl) (by kernel_rfl) (fun _ _ _ _ h => h) (by rfl) hHeld ?_
            apply Exists.intro
            apply And.intro
            · intro W3 hS3
              go_simp
              try rfl
            try simp only [Act.put, List.getElem_toArray, List.getElem_cons_zero, List.getElem_cons_succ, List.setIfInBounds_toArray, List.set_cons_zero, List.set_cons_succ]
            refine takeX (i := 48) rfl (by kernel_rfl) (by kernel_rfl) (by kernel_rfl) (fun _ _ _ _ h => h) (by rfl) hHeld ?_
            apply Exists.intro
            apply And.intro
            · intro W3 hS3
              go_simp
              try rfl
            try simp only [Act.put, List.getElem_toArray, List.getElem_cons_zero, List.getElem_cons_succ, List.setIfInBounds_toArray, List.set_cons_zero, List.set_cons_succ]
            refine takeX (i := 49) rfl (by kernel_rfl) (by kernel_rfl) (by kernel_rfl) (fun _ _ _ _ h => h) (by rfl) hHeld ?_
            apply Exists.intro
            apply And.intro
            · intro W3 hS3
              go_simp
              try rfl
            try simp only [Act.put, List.getElem_toArray, List.getElem_cons_zero, List.getElem_cons_succ, List.setIfInBounds_toArray, List.set_cons_zero, List.set_cons_succ]
            refine takeX (i := 50) rfl (by kernel_rfl) (by kernel_rfl) (by kernel_rfl) (fun _ _ _ _ h => h) (by rfl) hHeld ?_
            apply Exists.intro
            apply And.intro
            · intro W3 hS3
              go_simp
              try rfl
            try simp only [Act.put, List.getElem_toArray, List.getElem_cons_zero, List.getElem_cons_succ, List.setIfInBounds_toArray, List.set_cons_zero, List.set_cons_succ]
            refine takeX (i := 51) rfl (by kernel_rfl) (by kernel_rfl) (by kernel_rfl) (fun _ _ _ _ h => h) (by rfl) hHeld ?_
            apply Exists.intro
            apply And.intro
            · intro W3 hS3
              go_simp
              try rfl
            try simp only [Act.put, List.getElem_toArray, List.getElem_cons_zero, List.getElem_cons_succ, List.setIfInBounds_toArray, List.set_cons_zero, List.set_cons_succ]
            refine wpAnyH_take (i := 52) (v := undef) rfl (by kernel_rfl) (by kernel_rfl) (by kernel_rfl) (fun _ _ _ h => h) (Or.inr ⟨by rfl, rfl⟩) hHeld ?_
            try simp only [Act.put, List.getElem_toArray, List.getElem_cons_zero, List.getElem_cons_succ, List.setIfInBounds_toArray, List.set_cons_zero, List.set_cons_succ]
            refine wpAnyH_take (i := 53) (v := undef) rfl (by kernel_rfl) (by kernel_rfl) (by kernel_rfl) (fun _ _ _ h => h) (Or.inr ⟨by rfl, rfl⟩) hHeld ?_
            try simp only [Act.put, List.getElem_toArray, List.getElem_cons_zero, List.getElem_cons_succ, List.setIfInBounds_toArray, List.set_cons_zero, List.set_cons_succ]
            refine wpAnyH_take (i := 54) (v := undef) rfl (by kernel_rfl) (by kernel_rfl) (by kernel_rfl) (fun _ _ _ h => h) (Or.inr ⟨by rfl, rfl⟩) hHeld ?_
            try simp only [Act.put, List.getElem_toArray, List.getElem_cons_zero, List.getElem_cons_succ, List.setIfInBounds_toArray, List.set_cons_zero, List.set_cons_succ]
            refine wpAnyH_take (i := 55) (v := undef) rfl (by kernel_rfl) (by kernel_rfl) (by kernel_rfl) (fun _ _ _ h => h) (Or.inr ⟨by rfl, rfl⟩) hHeld ?_
            try simp only [Act.put, List.getElem_toArray, List.getElem_cons_zero, List.getElem_cons_succ, List.setIfInBounds_toArray, List.set_cons_zero, List.set_cons_succ]
            refine wpAnyH_take (i := 56) (v := undef) rfl (by kernel_rfl) (by kernel_rfl) (by kernel_rfl) (fun _ _ _ h => h) (Or.inr ⟨by rfl, rfl⟩) hHeld ?_
            try simp only [Act.put, List.getElem_toArray, List.getElem_cons_zero, List.getElem_cons_succ, List.setIfInBounds_toArray, List.set_cons_zero, List.set_cons_succ]
            refine wpAnyH_take (i := 57) (v := undef) rfl (by kernel_rfl) (by kernel_rfl) (by kernel_rfl) (fun _ _ _ h => h) (Or.inr ⟨by rfl, rfl⟩) hHeld ?_
            try simp only [Act.put, List.getElem_toArray, List.getElem_cons_zero, List.getElem_cons_succ, List.setIfInBounds_toArray, List.set_cons_zero, List.set_cons_succ]
            refine wpAnyH_take (i := 58) (v := undef) rfl (by kernel_rfl) (by kernel_rfl) (by kernel_rfl) (fun _ _ _ h => h) (Or.inr ⟨by rfl, rfl⟩) hHeld ?_
            try simp only [Act.put, List.getElem_toArray, List.getElem_cons_zero, List.getElem_cons_succ, List.setIfInBounds_toArray, List.set_cons_zero, List.set_cons_succ]
            refine wpAnyH_take (i := 59) (v := undef) rfl (by kernel_rfl) (by kernel_rfl) (by kernel_rfl) (fun _ _ _ h => h) (Or.inr ⟨by rfl, rfl⟩) hHeld ?_
            try simp only [Act.put, List.getElem_toArray, List.getElem_cons_zero, List.getElem_cons_succ, List.setIfInBounds_toArray, List.set_cons_zero, List.set_cons_succ]
            refine wpAnyH_take (i := 60) (v := undef) rfl (by kernel_rfl) (by kernel_rfl) (by kernel_rfl) (fun _ _ _ h => h) (Or.inr ⟨by rfl, rfl⟩) hHeld ?_
            try simp only [Act.put, List.getElem_toArray, List.getElem_cons_zero, List.getElem_cons_succ, List.setIfInBounds_toArray, List.set_cons_zero, List.set_cons_succ]
            refine takeX (i := 61) rfl (by kernel_rfl) (by kernel_rfl) (by kernel_rfl) (fun _ _ _ _ h => h) (by rfl) hHeld ?_
            apply Exists.intro
            apply And.intro
            · intro W3 hS3
              go_simp
              try rfl
            try simp only [Act.put, List.getElem_toArray, List.getElem_cons_zero, List.getElem_cons_succ, List.setIfInBounds_toArray, List.set_cons_zero, List.set_cons_succ]
            refine takeX (i := 62) rfl (by kernel_rfl) (by kernel_rfl) (by kernel_rfl) (fun _ _ _ _ h => h) (by rfl) hHeld ?_
            apply Exists.intro
            apply And.intro
            · intro W3 hS3
              go_simp
              try rfl
            try simp only [Act.put, List.getElem_toArray, List.getElem_cons_zero, List.getElem_cons_succ, List.setIfInBounds_toArray, List.set_cons_zero, List.set_cons_succ]
            refine wpAnyH_done (by kernel_rfl) ?_ _
            have K5 := Lib.hid hHeld
            go_wp2
            go_roundw
            case rel => exact ⟨k + 1, by omega, by go_num, HBL.out.trans (Below.mono (KB.call (w := wr) HKB.out K5.out) HBL.out.size)⟩
            case measure => simp [intOf]; omega
        · have e : k = c.length := by omega
          subst e
          have h9 := HB4.out.trans (hbel.mono HB4.out.size)
          have H9 := Lib.hid h9
          clear hbel h9
          go_wp2_with fail
          refine (SN.out _).mono ?_
          rintro e w9 ⟨rfl, hb9⟩
          have hh := below_trans H9.out hb9
          go_wp2
          go_ret
          exact ⟨rfl, hh⟩
    · have EB : Hid (shareV c n r = []) := Lib.hid (shareV_bad h0)
      have LV : Hid (leV c n r = 0) := Lib.hid (by unfold leV; rw [if_neg h0])
      have hl := shareV_len c n r
      have hb : (shareE c n r != 0) = true := bne_iff_ne.2 h0
      have H0 := Lib.hid h0
      clear h0
      go_enter Try.func14, Try.ntmps14
      go_wp2_with fail
      refine (long_any _ _ _ HV.out).mono ?_
      rintro e w' ⟨rfl, rfl⟩
      rw [L.out]
      go_wp2_with fail
      refine (tWhole_any _ _ _ _ _ HV.out).mono ?_
      rintro e w1 ⟨ov, res, rfl, hr1', hb1, hbad, hgood⟩
      have hre := hbad H0.out
      subst hre
      obtain ⟨oa, oc, rfl, _⟩ := hr1'
      have HB1 := Lib.hid hb1
      clear hb1 hbad hgood
      go_wp2_with fail
      refine (Share_any _ _ _ _ _ (HV.out.below HB1.out)).mono ?_
      rintro e w2 ⟨v2, rfl, ho2, hb2⟩
      have H2 := ho2.at hl
      rw [EB.out] at H2
      obtain ⟨oa2, oc2, rfl, _⟩ := H2
      have HB2 := Lib.hid (HB1.out.trans (hb2.mono HB1.out.size))
      clear ho2 hb2 hl
      go_wp2_with fail
      refine (tLeast_any _ _ _ _ _ (HV.out.below HB2.out)).mono ?_
      rintro e w3 ⟨rfl, hb3⟩
      have HB3 := Lib.hid (HB2.out.trans (hb3.mono HB2.out.size))
      rw [LV.out]
      clear hb3 LV EB H0
      generalize shareE c n r = se at *
      go_wp2_with fail
      refine (SN.out _).mono ?_
      rintro e w9 ⟨rfl, hb9⟩
      have hh := below_trans HB3.out hb9
      go_wp2
      go_ret
      exact ⟨rfl, hh⟩

end Go.Proofs.Ytaakefjblldccaa
