/- The walk of the law FundSplits. -/
import Derived.Test.YtaakefjblldccaaSg
namespace Go.Proofs.Ytaakefjblldccaa
open Go.RowKit


set_option maxRecDepth 100000 in
set_option maxHeartbeats 4000000 in
theorem FundSplits_walk (v : Value) (c : List Int) (n a b : Int) (w : World) (hv : IntsAt w v c) (ha : (Lit.int .u16 a).wf = true) (hb : (Lit.int .u16 b).wf = true) :
    Calls Try.prog 16 #[v, .int .i64 n, .agg #[.int .u16 a, .int .u16 b]] w fun e w' => e = .returned (.bool true) ∧ Below w.heap.size w w' := by
  have hab := u16_bounds ha
  have hbb := u16_bounds hb
  obtain ⟨w1, hw1⟩ : ∃ w1, w1 = w.alloc (.cells #[.int .u16 a, .int .u16 b] 63) := ⟨_, rfl⟩
  have HW1 := Lib.hid hw1
  have hB1 : Below w.heap.size w w1 := by rw [hw1]; exact (Below.refl w.heap.size w).alloc (Nat.le_refl _) _
  have a0 : w1.cell? ⟨w.heap.size, 0, none⟩ = some (.int .u16 a) := by rw [hw1]; simp
  have a1 : w1.cell? ⟨w.heap.size, 1, none⟩ = some (.int .u16 b) := by rw [hw1]; simp
  have z1 : ∀ W, KB w1 W → W.cell? ⟨w.heap.size, 0, none⟩ = some (.int .u16 a) := fun W h => keep_cell h a0
  have z2 : ∀ W, KB w1 W → W.cell? ⟨w.heap.size, 1, none⟩ = some (.int .u16 b) := fun W h => keep_cell h a1
  have HB1 := Lib.hid hB1
  have HV := Lib.hid (hv.below hB1)
  have SN := Lib.hid sane_any
  clear hv ha hb hB1 a0 a1 hw1
  by_cases h40 : 40 < c.length
  · have L : Hid (decide (40 < c.length) = true) := Lib.hid (decide_eq_true h40)
    clear h40
    go_enter Try.func16, Try.ntmps16
    go_wp2_with fail
    rw [← HW1.out]
    refine wp_region_held_drew (S := fun W => KB w1 W) (by kernel_rfl) (KB.drew (KB.refl _)) (fun hHeld => ?_)
    refine takeY (i := 0) rfl (by kernel_rfl) (by kernel_rfl) (by kernel_rfl) (fun _ _ _ _ h => h) (by rfl) hHeld ?_
    apply Exists.intro
    apply And.intro
    · intro W3 hS3
      go_simp
      try rfl
    try simp only [Act.put, List.getElem_toArray, List.getElem_cons_zero, List.getElem_cons_succ, List.setIfInBounds_toArray, List.set_cons_zero, List.set_cons_succ]
    refine takeY (i := 1) rfl (by kernel_rfl) (by kernel_rfl) (by kernel_rfl) (fun _ _ _ _ h => h) (by rfl) hHeld ?_
    apply Exists.intro
    apply And.intro
    · intro W3 hS3
      go_simp
      try rfl
    try simp only [Act.put, List.getElem_toArray, List.getElem_cons_zero, List.getElem_cons_succ, List.setIfInBounds_toArray, List.set_cons_zero, List.set_cons_succ]
    refine takeY (i := 2) rfl (by kernel_rfl) (by kernel_rfl) (by kernel_rfl) (fun _ _ _ _ h => h) (by rfl) hHeld ?_
    apply Exists.intro
    apply And.intro
    · intro W3 hS3
      go_simp
      try rfl
    try simp only [Act.put, List.getElem_toArray, List.getElem_cons_zero, List.getElem_cons_succ, List.setIfInBounds_toArray, List.set_cons_zero, List.set_cons_succ]
    refine takeY (i := 3) rfl (by kernel_rfl) (by kernel_rfl) (by kernel_rfl) (fun _ _ _ _ h => h) (by rfl) hHeld ?_
    apply Exists.intro
    apply And.intro
    · intro W3 hS3
      go_simp
      try rfl
    try simp only [Act.put, List.getElem_toArray, List.getElem_cons_zero, List.getElem_cons_succ, List.setIfInBounds_toArray, List.set_cons_zero, List.set_cons_succ]
    refine takeY (i := 4) rfl (by kernel_rfl) (by kernel_rfl) (by kernel_rfl) (fun _ _ _ _ h => h) (by rfl) hHeld ?_
    apply Exists.intro
    apply And.intro
    · intro W3 hS3
      go_simp
      try rfl
    try simp only [Act.put, List.getElem_toArray, List.getElem_cons_zero, List.getElem_cons_succ, List.setIfInBounds_toArray, List.set_cons_zero, List.set_cons_succ]
    refine takeY (i := 5) rfl (by kernel_rfl) (by kernel_rfl) (by kernel_rfl) (fun _ _ _ _ h => h) (by rfl) hHeld ?_
    apply Exists.intro
    apply And.intro
    · intro W3 hS3
      go_simp
      try rfl
    try simp only [Act.put, List.getElem_toArray, List.getElem_cons_zero, List.getElem_cons_succ, List.setIfInBounds_toArray, List.set_cons_zero, List.set_cons_succ]
    refine wpAnyH_done (by kernel_rfl) ?_ _
    obtain ⟨w0, hw0⟩ : ∃ w0, w0 = w1.drew := ⟨_, rfl⟩
    have HB0 := Lib.hid (show Below w.heap.size w w0 by rw [hw0]; exact HB1.out.drew)
    have HK0 := Lib.hid (show Below w1.heap.size w1 w0 by rw [hw0]; exact (Below.refl _ w1).drew)
    have HV0 := Lib.hid (show IntsAt w0 _ c by rw [hw0]; exact HV.out.below ((Below.refl _ w1).drew))
    rw [← hw0]
    clear hw0 z1 z2 hHeld
    go_wp2_with fail
    refine (long_any _ _ _ HV0.out).mono ?_
    rintro e w' ⟨rfl, rfl⟩
    rw [L.out]
    go_wp2_with fail
    refine (SN.out _).mono ?_
    rintro e w9 ⟨rfl, hb9⟩
    have hh := below_trans HB0.out hb9
    go_wp2
    go_ret
    exact ⟨rfl, hh⟩
  · have L : Hid (decide (40 < c.length) = false) := Lib.hid (decide_eq_false h40)
    clear h40
    cases hcv : cvl c with
    | false =>
      have CV := Lib.hid hcv
      clear hcv
      go_enter Try.func16, Try.ntmps16
      go_wp2_with fail
      rw [← HW1.out]
      refine wp_region_held_drew (S := fun W => KB w1 W) (by kernel_rfl) (KB.drew (KB.refl _)) (fun hHeld => ?_)
      refine takeY (i := 0) rfl (by kernel_rfl) (by kernel_rfl) (by kernel_rfl) (fun _ _ _ _ h => h) (by rfl) hHeld ?_
      apply Exists.intro
      apply And.intro
      · intro W3 hS3
        go_simp
        try rfl
      try simp only [Act.put, List.getElem_toArray, List.getElem_cons_zero, List.getElem_cons_succ, List.setIfInBounds_toArray, List.set_cons_zero, List.set_cons_succ]
      refine takeY (i := 1) rfl (by kernel_rfl) (by kernel_rfl) (by kernel_rfl) (fun _ _ _ _ h => h) (by rfl) hHeld ?_
      apply Exists.intro
      apply And.intro
      · intro W3 hS3
        go_simp
        try rfl
      try simp only [Act.put, List.getElem_toArray, List.getElem_cons_zero, List.getElem_cons_succ, List.setIfInBounds_toArray, List.set_cons_zero, List.set_cons_succ]
      refine takeY (i := 2) rfl (by kernel_rfl) (by kernel_rfl) (by kernel_rfl) (fun _ _ _ _ h => h) (by rfl) hHeld ?_
      apply Exists.intro
      apply And.intro
      · intro W3 hS3
        go_simp
        try rfl
      try simp only [Act.put, List.getElem_toArray, List.getElem_cons_zero, List.getElem_cons_succ, List.setIfInBounds_toArray, List.set_cons_zero, List.set_cons_succ]
      refine takeY (i := 3) rfl (by kernel_rfl) (by kernel_rfl) (by kernel_rfl) (fun _ _ _ _ h => h) (by rfl) hHeld ?_
      apply Exists.intro
      apply And.intro
      · intro W3 hS3
        go_simp
        try rfl
      try simp only [Act.put, List.getElem_toArray, List.getElem_cons_zero, List.getElem_cons_succ, List.setIfInBounds_toArray, List.set_cons_zero, List.set_cons_succ]
      refine takeY (i := 4) rfl (by kernel_rfl) (by kernel_rfl) (by kernel_rfl) (fun _ _ _ _ h => h) (by rfl) hHeld ?_
      apply Exists.intro
      apply And.intro
      · intro W3 hS3
        go_simp
        try rfl
      try simp only [Act.put, List.getElem_toArray, List.getElem_cons_zero, List.getElem_cons_succ, List.setIfInBounds_toArray, List.set_cons_zero, List.set_cons_succ]
      refine takeY (i := 5) rfl (by kernel_rfl) (by kernel_rfl) (by kernel_rfl) (fun _ _ _ _ h => h) (by rfl) hHeld ?_
      apply Exists.intro
      apply And.intro
      · intro W3 hS3
        go_simp
        try rfl
      try simp only [Act.put, List.getElem_toArray, List.getElem_cons_zero, List.getElem_cons_succ, List.setIfInBounds_toArray, List.set_cons_zero, List.set_cons_succ]
      refine wpAnyH_done (by kernel_rfl) ?_ _
      obtain ⟨w0, hw0⟩ : ∃ w0, w0 = w1.drew := ⟨_, rfl⟩
      have HB0 := Lib.hid (show Below w.heap.size w w0 by rw [hw0]; exact HB1.out.drew)
      have HK0 := Lib.hid (show Below w1.heap.size w1 w0 by rw [hw0]; exact (Below.refl _ w1).drew)
      have HV0 := Lib.hid (show IntsAt w0 _ c by rw [hw0]; exact HV.out.below ((Below.refl _ w1).drew))
      rw [← hw0]
      clear hw0 z1 z2 hHeld
      go_wp2_with fail
      refine (long_any _ _ _ HV0.out).mono ?_
      rintro e w' ⟨rfl, rfl⟩
      rw [L.out]
      go_wp2_with fail
      refine (rValid_any _ _ _ HV0.out).mono ?_
      rintro e w' ⟨rfl, rfl⟩
      rw [CV.out]
      go_wp2_with fail
      refine (SN.out _).mono ?_
      rintro e w9 ⟨rfl, hb9⟩
      have hh := below_trans HB0.out hb9
      go_wp2
      go_ret
      exact ⟨rfl, hh⟩
    | true =>
      have CV := Lib.hid hcv
      have hc := (cvl_iff c).1 hcv
      have hlo := hc.lo
      have hhi := hc.hi
      have m0 := Int.emod_nonneg a (show (c.length : Int) ≠ 0 by omega)
      have m1 := Int.emod_lt_of_pos a (show (0 : Int) < (c.length : Int) by omega)
      obtain ⟨j, hj⟩ := Int.eq_ofNat_of_zero_le m0
      have hjc : j < c.length := by omega
      have hcj := hc.holds _ (mem_getD hjc)
      have HJ := Lib.hid hj
      have hjl : (j : Int) < (c.length : Int) := by omega
      have n0 := Int.emod_nonneg b (show c.getD j 0 + 1 ≠ 0 by omega)
      have n1 := Int.emod_lt_of_pos b (show 0 < c.getD j 0 + 1 by omega)
      have FX := Lib.hid (fun r hr => spl_facts (c := c) (n := n) (r := r) (j := j) (f := b % (c.getD j 0 + 1)) hc hr hjc ⟨n0, by omega⟩)
      obtain ⟨b', off, cap, rfl, hcc⟩ := ints_cell HV.out (by omega)
      have HCK := Lib.hid (hcc j hjc)
      generalize c.getD j 0 = cj at *
      generalize hf : b % (cj + 1) = f at *
      have HF := Lib.hid hf
      clear hcv hc hj hf m0 m1 n0 n1 hcc
      go_enter Try.func16, Try.ntmps16
      go_wp2_with fail
      rw [← HW1.out]
      refine wp_region_held_drew (S := fun W => KB w1 W) (by kernel_rfl) (KB.drew (KB.refl _)) (fun hHeld => ?_)
      refine takeY (i := 0) rfl (by kernel_rfl) (by kernel_rfl) (by kernel_rfl) (fun _ _ _ _ h => h) (by rfl) hHeld ?_
      apply Exists.intro
      apply And.intro
      · intro W3 hS3
        go_simp
        try rfl
      try simp only [Act.put, List.getElem_toArray, List.getElem_cons_zero, List.getElem_cons_succ, List.setIfInBounds_toArray, List.set_cons_zero, List.set_cons_succ]
      refine takeY (i := 1) rfl (by kernel_rfl) (by kernel_rfl) (by kernel_rfl) (fun _ _ _ _ h => h) (by rfl) hHeld ?_
      apply Exists.intro
      apply And.intro
      · intro W3 hS3
        go_simp
        try rfl
      try simp only [Act.put, List.getElem_toArray, List.getElem_cons_zero, List.getElem_cons_succ, List.setIfInBounds_toArray, List.set_cons_zero, List.set_cons_succ]
      refine takeY (i := 2) rfl (by kernel_rfl) (by kernel_rfl) (by kernel_rfl) (fun _ _ _ _ h => h) (by rfl) hHeld ?_
      apply Exists.intro
      apply And.intro
      · intro W3 hS3
        go_simp
        try rfl
      try simp only [Act.put, List.getElem_toArray, List.getElem_cons_zero, List.getElem_cons_succ, List.setIfInBounds_toArray, List.set_cons_zero, List.set_cons_succ]
      refine takeY (i := 3) rfl (by kernel_rfl) (by kernel_rfl) (by kernel_rfl) (fun _ _ _ _ h => h) (by rfl) hHeld ?_
      apply Exists.intro
      apply And.intro
      · intro W3 hS3
        go_simp
        try rfl
      try simp only [Act.put, List.getElem_toArray, List.getElem_cons_zero, List.getElem_cons_succ, List.setIfInBounds_toArray, List.set_cons_zero, List.set_cons_succ]
      refine takeY (i := 4) rfl (by kernel_rfl) (by kernel_rfl) (by kernel_rfl) (fun _ _ _ _ h => h) (by rfl) hHeld ?_
      apply Exists.intro
      apply And.intro
      · intro W3 hS3
        go_simp
        try rfl
      try simp only [Act.put, List.getElem_toArray, List.getElem_cons_zero, List.getElem_cons_succ, List.setIfInBounds_toArray, List.set_cons_zero, List.set_cons_succ]
      refine takeY (i := 5) rfl (by kernel_rfl) (by kernel_rfl) (by kernel_rfl) (fun _ _ _ _ h => h) (by rfl) hHeld ?_
      apply Exists.intro
      apply And.intro
      · intro W3 hS3
        go_simp
        try rfl
      try simp only [Act.put, List.getElem_toArray, List.getElem_cons_zero, List.getElem_cons_succ, List.setIfInBounds_toArray, List.set_cons_zero, List.set_cons_succ]
      refine wpAnyH_done (by kernel_rfl) ?_ _
      obtain ⟨w0, hw0⟩ : ∃ w0, w0 = w1.drew := ⟨_, rfl⟩
      have HB0 := Lib.hid (show Below w.heap.size w w0 by rw [hw0]; exact HB1.out.drew)
      have HK0 := Lib.hid (show Below w1.heap.size w1 w0 by rw [hw0]; exact (Below.refl _ w1).drew)
      have HV0 := Lib.hid (show IntsAt w0 _ c by rw [hw0]; exact HV.out.below ((Below.refl _ w1).drew))
      rw [← hw0]
      clear hw0 z1 z2 hHeld
      go_wp2_with fail
      refine (long_any _ _ _ HV0.out).mono ?_
      rintro e w' ⟨rfl, rfl⟩
      rw [L.out]
      go_wp2_with fail
      refine (rValid_any _ _ _ HV0.out).mono ?_
      rintro e w' ⟨rfl, rfl⟩
      rw [CV.out]
      have c9 := keep_cell HK0.out HCK.out
      go_upto_region 5 with fail
      rw [HJ.out]
      go_upto_region 6 with fail
      rw [HF.out]
      clear c9
      go_wp2
      go_loopw [11] (fun iv wr => ∃ k : Nat, 1 ≤ k ∧ k ≤ 5 ∧ iv = .int .i64 k ∧ Below w0.heap.size w0 wr) (fun iv _ => 5 - (intOf iv).toNat)
      case atStart => exact ⟨1, by omega, by omega, rfl, Below.refl _ _⟩
      case round =>
        obtain ⟨k, hk1, hk5, rfl, hbel⟩ := hrel
        rcases show k = 1 ∨ k = 2 ∨ k = 3 ∨ k = 4 ∨ k = 5 by omega with rfl | rfl | rfl | rfl | rfl
        · rw [show ((1 : Nat) : Int) = 1 from rfl]
          have hse0 := (FX.out 1 (by omega)).se
          have hme0 := (FX.out 1 (by omega)).me
          have hs0 := (FX.out 1 (by omega)).s0
          have hm0 := (FX.out 1 (by omega)).m0
          have CS := Lib.hid (fun W q => Split_any (.slice (some ⟨b', off, none⟩) c.length cap) c n 1 j f W q)
          have CM := Lib.hid (fun W q => More_any (.slice (some ⟨b', off, none⟩) c.length cap) c n 1 j W q)
          unfold tupR at CS CM
          generalize splitV c n 1 j f = sv at *
          generalize splitE c n 1 j f = se at *
          generalize moreV c n 1 j = mv at *
          generalize moreE c n 1 j = me at *
          obtain ⟨s1, s2⟩ := sv
          obtain ⟨m1, m2⟩ := mv
          simp only at CS CM hs0 hm0
          have HSE := Lib.hid hse0
          have HME := Lib.hid hme0
          have HS0 := Lib.hid hs0
          have HM0 := Lib.hid hm0
          clear hse0 hme0 hs0 hm0
          have hbW := Lib.hid hbel
          clear hbel
          go_wp2_with fail
          refine (CS.out _ (HV0.out.below hbW.out)).mono ?_
          rintro e w2 ⟨rfl, hb2⟩
          have HB2 := Lib.hid (below_trans hbW.out hb2)
          clear hb2
          go_upto_region 10 with fail
          obtain ⟨w3, hww3⟩ : ∃ w3, w3 = w2.alloc (.cells #[.int .i64 s1, .int .i64 s2] 23) := ⟨_, rfl⟩
          have hb3 : Below w2.heap.size w2 w3 := by rw [hww3]; exact (Below.refl _ w2).alloc (Nat.le_refl _) _
          have HB3 := Lib.hid (below_trans HB2.out hb3)
          have t0 : w3.cell? ⟨w2.heap.size, 0, none⟩ = some (.int .i64 s1) := by rw [hww3]; simp
          have t1 : w3.cell? ⟨w2.heap.size, 1, none⟩ = some (.int .i64 s2) := by rw [hww3]; simp
          rw [← hww3]
          clear hww3
          clear hb3
          go_wp2_with fail
          refine (CM.out _ (HV0.out.below HB3.out)).mono ?_
          rintro e w4 ⟨rfl, hb4⟩
          have HB4 := Lib.hid (below_trans HB3.out hb4)
          have t2 := keep_cell hb4 t0
          have t3 := keep_cell hb4 t1
          clear t0 t1 hb4
          go_upto_region 11 with fail
          obtain ⟨w5, hww5⟩ : ∃ w5, w5 = w4.alloc (.cells #[.int .i64 m1, .int .i64 m2] 23) := ⟨_, rfl⟩
          have hb5 : Below w4.heap.size w4 w5 := by rw [hww5]; exact (Below.refl _ w4).alloc (Nat.le_refl _) _
          have HB5 := Lib.hid (below_trans HB4.out hb5)
          have p0 : w5.cell? ⟨w4.heap.size, 0, none⟩ = some (.int .i64 m1) := by rw [hww5]; simp
          have p1 : w5.cell? ⟨w4.heap.size, 1, none⟩ = some (.int .i64 m2) := by rw [hww5]; simp
          rw [← hww5]
          clear hww5
          have t4 := keep_cell hb5 t2
          have t5 := keep_cell hb5 t3
          have HBZ := HB5
          clear t2 t3 hb5
          have hs0 := HS0.out
          have hm0 := HM0.out
          clear HS0 HM0
          rcases HSE.out with hse | hse | hse
          · subst hse
            obtain ⟨k1, k2, k3, k4⟩ := hs0 rfl
            have g1 : decide (s2 < 1) = false := decide_eq_false (by omega)
            have g2 : (s1 != 0) = false := by rw [bne_eq_false_iff_eq]; exact k2 trivial
            clear k2 k3 k4 hs0
            rcases HME.out with hme | hme | hme
            · subst hme
              obtain ⟨l1, l2⟩ := hm0 rfl
              have g3 : decide (m2 < 1) = false := decide_eq_false (by omega)
              have g4 : decide (m1 < 0) = false := decide_eq_false (by omega)
              clear hm0 l1 l2 k1 HSE HME
              go_wp2
              go_roundw
              case rel => exact ⟨1 + 1, by omega, by omega, rfl, HBZ.out⟩
              case measure => simp [intOf]
            · subst hme
              clear hm0 HSE HME
              go_wp2
              go_roundw
              case rel => exact ⟨1 + 1, by omega, by omega, rfl, HBZ.out⟩
              case measure => simp [intOf]
            · subst hme
              clear hm0 HSE HME
              go_wp2
              go_roundw
              case rel => exact ⟨1 + 1, by omega, by omega, rfl, HBZ.out⟩
              case measure => simp [intOf]
          · subst hse
            clear hs0
            rcases HME.out with hme | hme | hme
            · subst hme
              obtain ⟨l1, l2⟩ := hm0 rfl
              have g3 : decide (m2 < 1) = false := decide_eq_false (by omega)
              have g4 : decide (m1 < 0) = false := decide_eq_false (by omega)
              clear hm0 l1 l2 HSE HME
              go_wp2
              go_roundw
              case rel => exact ⟨1 + 1, by omega, by omega, rfl, HBZ.out⟩
              case measure => simp [intOf]
            · subst hme
              clear hm0 HSE HME
              go_wp2
              go_roundw
              case rel => exact ⟨1 + 1, by omega, by omega, rfl, HBZ.out⟩
              case measure => simp [intOf]
            · subst hme
              clear hm0 HSE HME
              go_wp2
              go_roundw
              case rel => exact ⟨1 + 1, by omega, by omega, rfl, HBZ.out⟩
              case measure => simp [intOf]
          · subst hse
            clear hs0
            rcases HME.out with hme | hme | hme
            · subst hme
              obtain ⟨l1, l2⟩ := hm0 rfl
              have g3 : decide (m2 < 1) = false := decide_eq_false (by omega)
              have g4 : decide (m1 < 0) = false := decide_eq_false (by omega)
              clear hm0 l1 l2 HSE HME
              go_wp2
              go_roundw
              case rel => exact ⟨1 + 1, by omega, by omega, rfl, HBZ.out⟩
              case measure => simp [intOf]
            · subst hme
              clear hm0 HSE HME
              go_wp2
              go_roundw
              case rel => exact ⟨1 + 1, by omega, by omega, rfl, HBZ.out⟩
              case measure => simp [intOf]
            · subst hme
              clear hm0 HSE HME
              go_wp2
              go_roundw
              case rel => exact ⟨1 + 1, by omega, by omega, rfl, HBZ.out⟩
              case measure => simp [intOf]
        · rw [show ((2 : Nat) : Int) = 2 from rfl]
          have hse0 := (FX.out 2 (by omega)).se
          have hme0 := (FX.out 2 (by omega)).me
          have hs0 := (FX.out 2 (by omega)).s0
          have hm0 := (FX.out 2 (by omega)).m0
          have CS := Lib.hid (fun W q => Split_any (.slice (some ⟨b', off, none⟩) c.length cap) c n 2 j f W q)
          have CM := Lib.hid (fun W q => More_any (.slice (some ⟨b', off, none⟩) c.length cap) c n 2 j W q)
          unfold tupR at CS CM
          generalize splitV c n 2 j f = sv at *
          generalize splitE c n 2 j f = se at *
          generalize moreV c n 2 j = mv at *
          generalize moreE c n 2 j = me at *
          obtain ⟨s1, s2⟩ := sv
          obtain ⟨m1, m2⟩ := mv
          simp only at CS CM hs0 hm0
          have HSE := Lib.hid hse0
          have HME := Lib.hid hme0
          have HS0 := Lib.hid hs0
          have HM0 := Lib.hid hm0
          clear hse0 hme0 hs0 hm0
          have hbW := Lib.hid hbel
          clear hbel
          go_wp2_with fail
          refine (CS.out _ (HV0.out.below hbW.out)).mono ?_
          rintro e w2 ⟨rfl, hb2⟩
          have HB2 := Lib.hid (below_trans hbW.out hb2)
          clear hb2
          go_upto_region 10 with fail
          obtain ⟨w3, hww3⟩ : ∃ w3, w3 = w2.alloc (.cells #[.int .i64 s1, .int .i64 s2] 23) := ⟨_, rfl⟩
          have hb3 : Below w2.heap.size w2 w3 := by rw [hww3]; exact (Below.refl _ w2).alloc (Nat.le_refl _) _
          have HB3 := Lib.hid (below_trans HB2.out hb3)
          have t0 : w3.cell? ⟨w2.heap.size, 0, none⟩ = some (.int .i64 s1) := by rw [hww3]; simp
          have t1 : w3.cell? ⟨w2.heap.size, 1, none⟩ = some (.int .i64 s2) := by rw [hww3]; simp
          rw [← hww3]
          clear hww3
          clear hb3
          go_wp2_with fail
          refine (CM.out _ (HV0.out.below HB3.out)).mono ?_
          rintro e w4 ⟨rfl, hb4⟩
          have HB4 := Lib.hid (below_trans HB3.out hb4)
          have t2 := keep_cell hb4 t0
          have t3 := keep_cell hb4 t1
          clear t0 t1 hb4
          go_upto_region 11 with fail
          obtain ⟨w5, hww5⟩ : ∃ w5, w5 = w4.alloc (.cells #[.int .i64 m1, .int .i64 m2] 23) := ⟨_, rfl⟩
          have hb5 : Below w4.heap.size w4 w5 := by rw [hww5]; exact (Below.refl _ w4).alloc (Nat.le_refl _) _
          have HB5 := Lib.hid (below_trans HB4.out hb5)
          have p0 : w5.cell? ⟨w4.heap.size, 0, none⟩ = some (.int .i64 m1) := by rw [hww5]; simp
          have p1 : w5.cell? ⟨w4.heap.size, 1, none⟩ = some (.int .i64 m2) := by rw [hww5]; simp
          rw [← hww5]
          clear hww5
          have t4 := keep_cell hb5 t2
          have t5 := keep_cell hb5 t3
          have HBZ := HB5
          clear t2 t3 hb5
          have hs0 := HS0.out
          have hm0 := HM0.out
          clear HS0 HM0
          rcases HSE.out with hse | hse | hse
          · subst hse
            obtain ⟨k1, k2, k3, k4⟩ := hs0 rfl
            have g1 : decide (s2 < 1) = false := decide_eq_false (by omega)
            have g2 : decide (s1 < 0) = false := decide_eq_false (by have := k3 trivial; omega)
            clear k2 k3 k4 hs0
            rcases HME.out with hme | hme | hme
            · subst hme
              obtain ⟨l1, l2⟩ := hm0 rfl
              have g3 : decide (m2 < 1) = false := decide_eq_false (by omega)
              have g4 : decide (m1 < 0) = false := decide_eq_false (by omega)
              clear hm0 l1 l2 k1 HSE HME
              go_wp2
              go_roundw
              case rel => exact ⟨2 + 1, by omega, by omega, rfl, HBZ.out⟩
              case measure => simp [intOf]
            · subst hme
              clear hm0 HSE HME
              go_wp2
              go_roundw
              case rel => exact ⟨2 + 1, by omega, by omega, rfl, HBZ.out⟩
              case measure => simp [intOf]
            · subst hme
              clear hm0 HSE HME
              go_wp2
              go_roundw
              case rel => exact ⟨2 + 1, by omega, by omega, rfl, HBZ.out⟩
              case measure => simp [intOf]
          · subst hse
            clear hs0
            rcases HME.out with hme | hme | hme
            · subst hme
              obtain ⟨l1, l2⟩ := hm0 rfl
              have g3 : decide (m2 < 1) = false := decide_eq_false (by omega)
              have g4 : decide (m1 < 0) = false := decide_eq_false (by omega)
              clear hm0 l1 l2 HSE HME
              go_wp2
              go_roundw
              case rel => exact ⟨2 + 1, by omega, by omega, rfl, HBZ.out⟩
              case measure => simp [intOf]
            · subst hme
              clear hm0 HSE HME
              go_wp2
              go_roundw
              case rel => exact ⟨2 + 1, by omega, by omega, rfl, HBZ.out⟩
              case measure => simp [intOf]
            · subst hme
              clear hm0 HSE HME
              go_wp2
              go_roundw
              case rel => exact ⟨2 + 1, by omega, by omega, rfl, HBZ.out⟩
              case measure => simp [intOf]
          · subst hse
            clear hs0
            rcases HME.out with hme | hme | hme
            · subst hme
              obtain ⟨l1, l2⟩ := hm0 rfl
              have g3 : decide (m2 < 1) = false := decide_eq_false (by omega)
              have g4 : decide (m1 < 0) = false := decide_eq_false (by omega)
              clear hm0 l1 l2 HSE HME
              go_wp2
              go_roundw
              case rel => exact ⟨2 + 1, by omega, by omega, rfl, HBZ.out⟩
              case measure => simp [intOf]
            · subst hme
              clear hm0 HSE HME
              go_wp2
              go_roundw
              case rel => exact ⟨2 + 1, by omega, by omega, rfl, HBZ.out⟩
              case measure => simp [intOf]
            · subst hme
              clear hm0 HSE HME
              go_wp2
              go_roundw
              case rel => exact ⟨2 + 1, by omega, by omega, rfl, HBZ.out⟩
              case measure => simp [intOf]
        · rw [show ((3 : Nat) : Int) = 3 from rfl]
          have hse0 := (FX.out 3 (by omega)).se
          have hme0 := (FX.out 3 (by omega)).me
          have hs0 := (FX.out 3 (by omega)).s0
          have hm0 := (FX.out 3 (by omega)).m0
          have CS := Lib.hid (fun W q => Split_any (.slice (some ⟨b', off, none⟩) c.length cap) c n 3 j f W q)
          have CM := Lib.hid (fun W q => More_any (.slice (some ⟨b', off, none⟩) c.length cap) c n 3 j W q)
          unfold tupR at CS CM
          generalize splitV c n 3 j f = sv at *
          generalize splitE c n 3 j f = se at *
          generalize moreV c n 3 j = mv at *
          generalize moreE c n 3 j = me at *
          obtain ⟨s1, s2⟩ := sv
          obtain ⟨m1, m2⟩ := mv
          simp only at CS CM hs0 hm0
          have HSE := Lib.hid hse0
          have HME := Lib.hid hme0
          have HS0 := Lib.hid hs0
          have HM0 := Lib.hid hm0
          clear hse0 hme0 hs0 hm0
          have hbW := Lib.hid hbel
          clear hbel
          go_wp2_with fail
          refine (CS.out _ (HV0.out.below hbW.out)).mono ?_
          rintro e w2 ⟨rfl, hb2⟩
          have HB2 := Lib.hid (below_trans hbW.out hb2)
          clear hb2
          go_upto_region 10 with fail
          obtain ⟨w3, hww3⟩ : ∃ w3, w3 = w2.alloc (.cells #[.int .i64 s1, .int .i64 s2] 23) := ⟨_, rfl⟩
          have hb3 : Below w2.heap.size w2 w3 := by rw [hww3]; exact (Below.refl _ w2).alloc (Nat.le_refl _) _
          have HB3 := Lib.hid (below_trans HB2.out hb3)
          have t0 : w3.cell? ⟨w2.heap.size, 0, none⟩ = some (.int .i64 s1) := by rw [hww3]; simp
          have t1 : w3.cell? ⟨w2.heap.size, 1, none⟩ = some (.int .i64 s2) := by rw [hww3]; simp
          rw [← hww3]
          clear hww3
          clear hb3
          go_wp2_with fail
          refine (CM.out _ (HV0.out.below HB3.out)).mono ?_
          rintro e w4 ⟨rfl, hb4⟩
          have HB4 := Lib.hid (below_trans HB3.out hb4)
          have t2 := keep_cell hb4 t0
          have t3 := keep_cell hb4 t1
          clear t0 t1 hb4
          go_upto_region 11 with fail
          obtain ⟨w5, hww5⟩ : ∃ w5, w5 = w4.alloc (.cells #[.int .i64 m1, .int .i64 m2] 23) := ⟨_, rfl⟩
          have hb5 : Below w4.heap.size w4 w5 := by rw [hww5]; exact (Below.refl _ w4).alloc (Nat.le_refl _) _
          have HB5 := Lib.hid (below_trans HB4.out hb5)
          have p0 : w5.cell? ⟨w4.heap.size, 0, none⟩ = some (.int .i64 m1) := by rw [hww5]; simp
          have p1 : w5.cell? ⟨w4.heap.size, 1, none⟩ = some (.int .i64 m2) := by rw [hww5]; simp
          rw [← hww5]
          clear hww5
          have t4 := keep_cell hb5 t2
          have t5 := keep_cell hb5 t3
          have HBZ := HB5
          clear t2 t3 hb5
          have hs0 := HS0.out
          have hm0 := HM0.out
          clear HS0 HM0
          rcases HSE.out with hse | hse | hse
          · subst hse
            obtain ⟨k1, k2, k3, k4⟩ := hs0 rfl
            have g1 : decide (s2 < 1) = false := decide_eq_false (by omega)
            have g2 : decide (0 < s1) = false := decide_eq_false (by have := k4 trivial; omega)
            clear k2 k3 k4 hs0
            rcases HME.out with hme | hme | hme
            · subst hme
              obtain ⟨l1, l2⟩ := hm0 rfl
              have g3 : decide (m2 < 1) = false := decide_eq_false (by omega)
              have g4 : decide (m1 < 0) = false := decide_eq_false (by omega)
              clear hm0 l1 l2 k1 HSE HME
              go_wp2
              go_roundw
              case rel => exact ⟨3 + 1, by omega, by omega, rfl, HBZ.out⟩
              case measure => simp [intOf]
            · subst hme
              clear hm0 HSE HME
              go_wp2
              go_roundw
              case rel => exact ⟨3 + 1, by omega, by omega, rfl, HBZ.out⟩
              case measure => simp [intOf]
            · subst hme
              clear hm0 HSE HME
              go_wp2
              go_roundw
              case rel => exact ⟨3 + 1, by omega, by omega, rfl, HBZ.out⟩
              case measure => simp [intOf]
          · subst hse
            clear hs0
            rcases HME.out with hme | hme | hme
            · subst hme
              obtain ⟨l1, l2⟩ := hm0 rfl
              have g3 : decide (m2 < 1) = false := decide_eq_false (by omega)
              have g4 : decide (m1 < 0) = false := decide_eq_false (by omega)
              clear hm0 l1 l2 HSE HME
              go_wp2
              go_roundw
              case rel => exact ⟨3 + 1, by omega, by omega, rfl, HBZ.out⟩
              case measure => simp [intOf]
            · subst hme
              clear hm0 HSE HME
              go_wp2
              go_roundw
              case rel => exact ⟨3 + 1, by omega, by omega, rfl, HBZ.out⟩
              case measure => simp [intOf]
            · subst hme
              clear hm0 HSE HME
              go_wp2
              go_roundw
              case rel => exact ⟨3 + 1, by omega, by omega, rfl, HBZ.out⟩
              case measure => simp [intOf]
          · subst hse
            clear hs0
            rcases HME.out with hme | hme | hme
            · subst hme
              obtain ⟨l1, l2⟩ := hm0 rfl
              have g3 : decide (m2 < 1) = false := decide_eq_false (by omega)
              have g4 : decide (m1 < 0) = false := decide_eq_false (by omega)
              clear hm0 l1 l2 HSE HME
              go_wp2
              go_roundw
              case rel => exact ⟨3 + 1, by omega, by omega, rfl, HBZ.out⟩
              case measure => simp [intOf]
            · subst hme
              clear hm0 HSE HME
              go_wp2
              go_roundw
              case rel => exact ⟨3 + 1, by omega, by omega, rfl, HBZ.out⟩
              case measure => simp [intOf]
            · subst hme
              clear hm0 HSE HME
              go_wp2
              go_roundw
              case rel => exact ⟨3 + 1, by omega, by omega, rfl, HBZ.out⟩
              case measure => simp [intOf]
        · rw [show ((4 : Nat) : Int) = 4 from rfl]
          have hse0 := (FX.out 4 (by omega)).se
          have hme0 := (FX.out 4 (by omega)).me
          have hs0 := (FX.out 4 (by omega)).s0
          have hm0 := (FX.out 4 (by omega)).m0
          have CS := Lib.hid (fun W q => Split_any (.slice (some ⟨b', off, none⟩) c.length cap) c n 4 j f W q)
          have CM := Lib.hid (fun W q => More_any (.slice (some ⟨b', off, none⟩) c.length cap) c n 4 j W q)
          unfold tupR at CS CM
          generalize splitV c n 4 j f = sv at *
          generalize splitE c n 4 j f = se at *
          generalize moreV c n 4 j = mv at *
          generalize moreE c n 4 j = me at *
          obtain ⟨s1, s2⟩ := sv
          obtain ⟨m1, m2⟩ := mv
          simp only at CS CM hs0 hm0
          have HSE := Lib.hid hse0
          have HME := Lib.hid hme0
          have HS0 := Lib.hid hs0
          have HM0 := Lib.hid hm0
          clear hse0 hme0 hs0 hm0
          have hbW := Lib.hid hbel
          clear hbel
          go_wp2_with fail
          refine (CS.out _ (HV0.out.below hbW.out)).mono ?_
          rintro e w2 ⟨rfl, hb2⟩
          have HB2 := Lib.hid (below_trans hbW.out hb2)
          clear hb2
          go_upto_region 10 with fail
          obtain ⟨w3, hww3⟩ : ∃ w3, w3 = w2.alloc (.cells #[.int .i64 s1, .int .i64 s2] 23) := ⟨_, rfl⟩
          have hb3 : Below w2.heap.size w2 w3 := by rw [hww3]; exact (Below.refl _ w2).alloc (Nat.le_refl _) _
          have HB3 := Lib.hid (below_trans HB2.out hb3)
          have t0 : w3.cell? ⟨w2.heap.size, 0, none⟩ = some (.int .i64 s1) := by rw [hww3]; simp
          have t1 : w3.cell? ⟨w2.heap.size, 1, none⟩ = some (.int .i64 s2) := by rw [hww3]; simp
          rw [← hww3]
          clear hww3
          clear hb3
          go_wp2_with fail
          refine (CM.out _ (HV0.out.below HB3.out)).mono ?_
          rintro e w4 ⟨rfl, hb4⟩
          have HB4 := Lib.hid (below_trans HB3.out hb4)
          have t2 := keep_cell hb4 t0
          have t3 := keep_cell hb4 t1
          clear t0 t1 hb4
          go_upto_region 11 with fail
          obtain ⟨w5, hww5⟩ : ∃ w5, w5 = w4.alloc (.cells #[.int .i64 m1, .int .i64 m2] 23) := ⟨_, rfl⟩
          have hb5 : Below w4.heap.size w4 w5 := by rw [hww5]; exact (Below.refl _ w4).alloc (Nat.le_refl _) _
          have HB5 := Lib.hid (below_trans HB4.out hb5)
          have p0 : w5.cell? ⟨w4.heap.size, 0, none⟩ = some (.int .i64 m1) := by rw [hww5]; simp
          have p1 : w5.cell? ⟨w4.heap.size, 1, none⟩ = some (.int .i64 m2) := by rw [hww5]; simp
          rw [← hww5]
          clear hww5
          have t4 := keep_cell hb5 t2
          have t5 := keep_cell hb5 t3
          have HBZ := HB5
          clear t2 t3 hb5
          have hs0 := HS0.out
          have hm0 := HM0.out
          clear HS0 HM0
          rcases HSE.out with hse | hse | hse
          · subst hse
            obtain ⟨k1, k2, k3, k4⟩ := hs0 rfl
            have g1 : decide (s2 < 1) = false := decide_eq_false (by omega)
            have g2 : True := trivial
            clear k2 k3 k4 hs0
            rcases HME.out with hme | hme | hme
            · subst hme
              obtain ⟨l1, l2⟩ := hm0 rfl
              have g3 : decide (m2 < 1) = false := decide_eq_false (by omega)
              have g4 : decide (m1 < 0) = false := decide_eq_false (by omega)
              clear hm0 l1 l2 k1 HSE HME
              go_wp2
              go_roundw
              case rel => exact ⟨4 + 1, by omega, by omega, rfl, HBZ.out⟩
              case measure => simp [intOf]
            · subst hme
              clear hm0 HSE HME
              go_wp2
              go_roundw
              case rel => exact ⟨4 + 1, by omega, by omega, rfl, HBZ.out⟩
              case measure => simp [intOf]
            · subst hme
              clear hm0 HSE HME
              go_wp2
              go_roundw
              case rel => exact ⟨4 + 1, by omega, by omega, rfl, HBZ.out⟩
              case measure => simp [intOf]
          · subst hse
            clear hs0
            rcases HME.out with hme | hme | hme
            · subst hme
              obtain ⟨l1, l2⟩ := hm0 rfl
              have g3 : decide (m2 < 1) = false := decide_eq_false (by omega)
              have g4 : decide (m1 < 0) = false := decide_eq_false (by omega)
              clear hm0 l1 l2 HSE HME
              go_wp2
              go_roundw
              case rel => exact ⟨4 + 1, by omega, by omega, rfl, HBZ.out⟩
              case measure => simp [intOf]
            · subst hme
              clear hm0 HSE HME
              go_wp2
              go_roundw
              case rel => exact ⟨4 + 1, by omega, by omega, rfl, HBZ.out⟩
              case measure => simp [intOf]
            · subst hme
              clear hm0 HSE HME
              go_wp2
              go_roundw
              case rel => exact ⟨4 + 1, by omega, by omega, rfl, HBZ.out⟩
              case measure => simp [intOf]
          · subst hse
            clear hs0
            rcases HME.out with hme | hme | hme
            · subst hme
              obtain ⟨l1, l2⟩ := hm0 rfl
              have g3 : decide (m2 < 1) = false := decide_eq_false (by omega)
              have g4 : decide (m1 < 0) = false := decide_eq_false (by omega)
              clear hm0 l1 l2 HSE HME
              go_wp2
              go_roundw
              case rel => exact ⟨4 + 1, by omega, by omega, rfl, HBZ.out⟩
              case measure => simp [intOf]
            · subst hme
              clear hm0 HSE HME
              go_wp2
              go_roundw
              case rel => exact ⟨4 + 1, by omega, by omega, rfl, HBZ.out⟩
              case measure => simp [intOf]
            · subst hme
              clear hm0 HSE HME
              go_wp2
              go_roundw
              case rel => exact ⟨4 + 1, by omega, by omega, rfl, HBZ.out⟩
              case measure => simp [intOf]
        · rw [show ((5 : Nat) : Int) = 5 from rfl]
          go_wp2_with fail
          refine (SN.out _).mono ?_
          rintro e w9 ⟨rfl, hb9⟩
          have hh := below_trans HB0.out (below_trans hbel hb9)
          go_wp2
          go_ret
          exact ⟨rfl, hh⟩

end Go.Proofs.Ytaakefjblldccaa
