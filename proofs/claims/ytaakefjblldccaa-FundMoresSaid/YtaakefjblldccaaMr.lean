/- Contracts: by how much an award is greater with a greater claim (the reference). -/
import Derived.Test.YtaakefjblldccaaMo
import Derived.Test.YtaakefjblldccaaTx
namespace Go.Proofs.Ytaakefjblldccaa
open Go.RowKit

theorem KR.ints {B : Nat} {w W : World} (h : KR B w W) {b off cap : Nat} {l : List Int} (hv : IntsAt w (.slice (some ⟨b, off, none⟩) l.length cap) l) (hne : b ≠ B) : IntsAt W (.slice (some ⟨b, off, none⟩) l.length cap) l := by
  obtain ⟨a, cap', h1, h2, h3⟩ := hv
  simp only [Value.slice.injEq] at h1
  obtain ⟨rfl, -, rfl⟩ := h1
  refine ⟨_, _, rfl, h2, fun h0 => ?_⟩
  obtain ⟨b', off', h4, h5⟩ := h3 h0
  simp only [Option.some.injEq, Addr.mk.injEq] at h4
  obtain ⟨rfl, rfl, -⟩ := h4
  exact ⟨_, _, rfl, fun j hj => h.cell hne (h5 j hj)⟩

set_option maxRecDepth 100000 in
set_option maxHeartbeats 4000000 in
theorem rMore_any (v : Value) (c : List Int) (n r k : Int) (w : World) (hv : IntsAt w v c) :
    Calls Try.prog 49 #[v, .int .i64 n, .int .i64 r, .int .i64 k] w fun e w' => e = .returned (tupR (moreV c n r k) (moreE c n r k)) ∧ Below w.heap.size w w' := by
  have HV := Lib.hid hv
  have hal : Below w.heap.size w (w.alloc (.cells #[.int .i64 0, .int .i64 0] 23)) := (Below.refl _ w).alloc (Nat.le_refl _) _
  have HAL := Lib.hid hal
  by_cases h0 : shareE c n r = 0
  · have E0 := Lib.hid h0
    have hcv := (more_cvl h0)
    have hlo := hcv.lo
    have hhi := hcv.hi
    obtain ⟨b, off, cap, rfl, hcc⟩ := ints_cell hv (by omega)
    have e1 : IntKind.i64.wrap ((c.length : Int) - 1) = (c.length : Int) - 1 := IntWalk.i64_in _ (by omega)
    cases hcm : clmt c k with
    | false =>
      have CM := Lib.hid hcm
      have A : Hid (moreE c n r k = 2) := Lib.hid (by unfold moreE; rw [if_pos h0, hcm]; rfl)
      have R : Hid (moreV c n r k = (0, 0)) := Lib.hid (by unfold moreV; rw [A.out]; rfl)
      clear h0 hcm hcc hv hcv hal
      go_enter Try.func49, Try.ntmps49
      go_wp2_with fail
      refine (rruled_any _ _ _ _ _ (HV.out.below HAL.out)).mono ?_
      rintro e w' ⟨rfl, rfl⟩
      rw [E0.out]
      go_wp2_with fail
      refine (within_any _ _ _ _).mono ?_
      rintro e w' ⟨rfl, rfl⟩
      rw [show betw 0 _ ((c.length : Int) - 1) = _ from CM.out]
      go_wp2
      refine bodyPost_ret (v := tupR (0, 0) (2)) (by unfold tupR; simp [results, Try.results49, go_sem]) rfl ⟨by rw [R.out, A.out], ?_⟩
      repeat (first | exact Below.refl _ _ | refine Below.setCell ?_ (by simp) _ | refine Below.alloc ?_ (by simp) _)
    | true =>
      have CM := Lib.hid hcm
      obtain ⟨j, rfl, hj⟩ := clmt_nat hcm
      have hj' : (j : Int) < (c.length : Int) := by omega
      have HCJ := keep_cell hal (hcc j hj)
      by_cases hM : c.getD j 0 = 1000
      · have A : Hid (moreE c n r j = 5) := Lib.hid (by unfold moreE; rw [if_pos h0, hcm, if_pos rfl, Int.toNat_natCast, if_pos hM])
        have R : Hid (moreV c n r j = (0, 0)) := Lib.hid (by unfold moreV; rw [A.out]; rfl)
        rw [hM] at HCJ
        clear h0 hcm hcc hv hcv hM hal
        go_enter Try.func49, Try.ntmps49
        go_wp2_with fail
        refine (rruled_any _ _ _ _ _ (HV.out.below HAL.out)).mono ?_
        rintro e w' ⟨rfl, rfl⟩
        rw [E0.out]
        go_wp2_with fail
        refine (within_any _ _ _ _).mono ?_
        rintro e w' ⟨rfl, rfl⟩
        rw [show betw 0 _ ((c.length : Int) - 1) = _ from CM.out]
        go_wp2
        refine bodyPost_ret (v := tupR (0, 0) (5)) (by unfold tupR; simp [results, Try.results49, go_sem]) rfl ⟨by rw [R.out, A.out], ?_⟩
        repeat (first | exact Below.refl _ _ | refine Below.setCell ?_ (by simp) _ | refine Below.alloc ?_ (by simp) _)
      · have A : Hid (moreE c n r j = 0) := Lib.hid (by unfold moreE; rw [if_pos h0, hcm, if_pos rfl, Int.toNat_natCast, if_neg hM])
        have R : Hid (moreV c n r j = subR ((shareL (incC c j) n r).getD j (0, 0)) ((shareL c n r).getD j (0, 0))) := Lib.hid (by unfold moreV; rw [A.out, if_pos rfl, Int.toNat_natCast])
        have M := more_ok h0 hj hM
        have BA := okv_bd M.cv M.a hj
        have BB := okv_bd M.cw M.b (k := j) (by unfold incC; rw [List.length_set]; exact hj)
        have MU1 := BB.mul BA
        have MU2 := BA.mul BB
        have HCC := Lib.hid hcc
        have hck := M.cv.holds _ (mem_getD hj)
        have hla : (shareL c n r).length = c.length := M.a.1
        have hlb : (shareL (incC c j) n r).length = c.length := by rw [M.b.1]; unfold incC; rw [List.length_set]
        have S1 := Lib.hid (fun v' W q => rshare_any v' (incC c j) n r W q M.cw M.n0 M.n2 ⟨M.r0, M.r1⟩)
        have S2 := Lib.hid (fun v' W q => rshare_any v' c n r W q M.cv M.n0 M.n1 ⟨M.r0, M.r1⟩)
        unfold GivesR at S1 S2
        have INC := Lib.hid (show incC c j = c.set j (c.getD j 0 + 1) from rfl)
        have LIN := Lib.hid (show (incC c j).length = c.length by unfold incC; rw [List.length_set])
        have hMd : (c.getD j 0 == 1000) = false := beq_eq_false_iff_ne.2 hM
        clear h0 hcm hcc M hM hv hcv
        generalize hck' : c.getD j 0 = ck at *
        have CK := Lib.hid hck'
        clear hck'
        generalize hxa : (shareL c n r).getD j (0, 0) = xa at *
        generalize hxb : (shareL (incC c j) n r).getD j (0, 0) = xb at *
        have HXA := Lib.hid hxa
        have HXB := Lib.hid hxb
        clear hxa hxb
        generalize shareL c n r = la at *
        generalize shareL (incC c j) n r = lb at *
        obtain ⟨p, d⟩ := xa
        obtain ⟨q, f⟩ := xb
        obtain ⟨ba1, ba2, ba3, ba4⟩ := BA
        obtain ⟨bb1, bb2, bb3, bb4⟩ := BB
        unfold subR at R
        simp only at MU1 MU2 ba1 ba2 ba3 ba4 bb1 bb2 bb3 bb4 R
        have MN := Lib.hid (fun W => rminus_any q f p d W (by omega) (by omega) (by omega))
        have HBND := Lib.hid (And.intro hla hlb)
        have hbw : b < w.heap.size := World.block_lt_of_cell? _ _ (HCC.out j hj)
        have HBW := Lib.hid hbw
        have hja : (j : Int) < (la.length : Int) := by omega
        have hjb : (j : Int) < (lb.length : Int) := by omega
        obtain ⟨j0, hj0, hy0, hy1, hy2⟩ := info_parts Try.infoInt
        clear MU1 MU2 ba1 ba2 ba3 ba4 bb1 bb2 bb3 bb4 hal hbw
        go_enter Try.func49, Try.ntmps49
        go_wp2_with fail
        refine (rruled_any _ _ _ _ _ (HV.out.below HAL.out)).mono ?_
        rintro e w' ⟨rfl, rfl⟩
        rw [E0.out]
        go_wp2_with fail
        refine (within_any _ _ _ _).mono ?_
        rintro e w' ⟨rfl, rfl⟩
        rw [show betw 0 _ ((c.length : Int) - 1) = _ from CM.out]
        obtain ⟨w1, hw1⟩ : ∃ w1, w1 = w.alloc (.cells #[.int .i64 0, .int .i64 0] 23) := ⟨_, rfl⟩
        have HBR := Lib.hid (show Below (w.heap.size + 1) (w.alloc (.cells #[.int .i64 0, .int .i64 0] 23)) w1 by rw [hw1]; exact Below.refl _ _)
        have hs1 : w1.heap.size = w.heap.size + 1 := by rw [hw1]; simp
        have HS1 := Lib.hid hs1
        rw [← hw1] at HAL HCJ ⊢
        have HC1 := Lib.hid (fun i hi => keep_cell HAL.out (HCC.out i hi))
        clear hw1 hs1
        go_upto_region 9 with (at_builtin; refine wpList_append_own _ rfl _ _ 29 rfl w1.heap.size 3 j0 (.int .i64 0) 1 8 Try.underlying29 hj0 hy0 hy1 hy2 rfl (by decide) _ _ _ rfl (World.ownsRow_made w1 #[] 0 (Nat.le_refl _) (Nat.zero_le _) rfl) ⟨b, off, none⟩ c.length cap (c.map (Value.int .i64)) rfl ?qc1 ?qc2 ?qc3 ?qc4 ?qc5 ?qc6 ?_)
        case qc1 => simp
        case qc2 =>
          intro i u hi
          have hic : i < c.length := by
            have := (List.getElem?_eq_some_iff.1 hi).1
            simpa using this
          rw [Addr.add_lit]
          refine Lib.cell?_alloc_some _ ?_
          rw [HC1.out i hic]
          simp [hic] at hi
          rw [← hi]
          simp [List.getD_eq_getElem?_getD, hic]
        case qc3 => intro u hu; obtain ⟨x, _, rfl⟩ := List.mem_map.1 hu; rfl
        case qc4 => unfold maxLen; omega
        case qc5 => omega
        case qc6 => simp
        intro v2 w2 hown hgrow hnil
        have ho2 : w2.ownsRow w1.heap.size 3 1 v2 c.length (c.map (Value.int .i64)) := by simpa using hown
        have hb2 : Below w1.heap.size w1 w2 := ((Below.refl _ w1).alloc (Nat.le_refl _) _).grown hgrow (by simp) (by intro k hk; simp [Value.ownBlock] at hk; omega)
        obtain ⟨g2, cap2, rfl, hg2⟩ : ∃ g cap, v2 = .slice (some ⟨g, 0, none⟩) c.length cap ∧ w1.heap.size ≤ g := by
          rcases ho2.2 with ⟨_, h0⟩ | ⟨g, cp, cur, h1, h2, h3, _⟩
          · omega
          · exact ⟨g, cp, h1, h2⟩
        have k2 := (ho2.cellAt j (by rw [Nat.mul_one]; exact hj)).trans (show _ = some (Value.int .i64 ck) by rw [← CK.out]; simp [List.getD_eq_getElem?_getD, hj])
        have f2 := ho2.frozenAt j
        have HB2 := Lib.hid hb2
        have HOI := Lib.hid (show OwnIr w1.heap.size w2 g2 cap2 c from ⟨ho2, hg2⟩)
        have HW3 := Lib.hid ((HOI.out.set j (ck + 1)).ints (by rw [List.length_set]; omega))
        have HB3 := Lib.hid (HB2.out.setCell (p := ⟨g2, j, none⟩) hg2 (.int .i64 (ck + 1)))
        have HG2 := Lib.hid (show g2 ≠ w.heap.size by have := HS1.out; omega)
        rw [List.length_set, ← INC.out] at HW3
        clear hnil hgrow hown ho2 hb2 hMd HCJ
        go_upto_region 10 with fail
        generalize w2.setCell ⟨g2, j, none⟩ (.int .i64 (ck + 1)) = w3 at *
        have HBR3 := Lib.hid (show Below (w.heap.size + 1) (w.alloc (.cells #[.int .i64 0, .int .i64 0] 23)) w3 from HBR.out.trans (HB3.out.mono (by rw [HS1.out]; exact Nat.le_refl _)))
        have HV3 := Lib.hid (HV.out.below (HAL.out.trans (HB3.out.mono (by rw [HS1.out]; exact Nat.le_succ _))))
        have HNB := Lib.hid (show b ≠ w.heap.size by have := HBW.out; omega)
        have N1 := Lib.hid (fun W (h : KR w.heap.size w3 W) => S1.out _ W (by have q := h.ints (by rw [LIN.out]; exact HW3.out) HG2.out; rw [LIN.out] at q; exact q))
        have N2 := Lib.hid (fun W (h : KR w.heap.size w3 W) => S2.out _ W (h.ints HV3.out HNB.out))
        clear k2 f2 hg2 e1
        go_wp2
        refine wp_region_held_drew (S := fun W => KR w.heap.size w3 W) (by kernel_rfl) (KR.start HBR3.out).drew (fun hHeld => ?_)
        refine takeY (i := 0) rfl (by kernel_rfl) (by kernel_rfl) (by kernel_rfl) (fun _ _ _ _ h => h) (by rfl) hHeld ?_
        apply Exists.intro
        apply And.intro
        · intro W3 hS3
          go_simp
          try rfl
        try simp only [Act.put, List.getElem_toArray, List.getElem_cons_zero, List.getElem_cons_succ, List.setIfInBounds_toArray, List.set_cons_zero, List.set_cons_succ]
        refine takeY (i := 1) rfl (by kernel_rfl) (by kernel_rfl) (by kernel_rfl) (fun _ _ _ _ h => h) (by rfl) hHeld ?_
        apply Exists.intro
        apply And.intro
        · intro W3 hS3
          go_simp
          try rfl
        try simp only [Act.put, List.getElem_toArray, List.getElem_cons_zero, List.getElem_cons_succ, List.setIfInBounds_toArray, List.set_cons_zero, List.set_cons_succ]
        refine takeY (i := 2) rfl (by kernel_rfl) (by kernel_rfl) (by kernel_rfl) (fun _ _ _ _ h => h) (by rfl) hHeld ?_
        apply Exists.intro
        apply And.intro
        · intro W3 hS3
          go_simp
          try rfl
        try simp only [Act.put, List.getElem_toArray, List.getElem_cons_zero, List.getElem_cons_succ, List.setIfInBounds_toArray, List.set_cons_zero, List.set_cons_succ]
        refine takeY (i := 4) rfl (by kernel_rfl) (by kernel_rfl) (by kernel_rfl) (fun _ _ _ _ h => h) (by rfl) hHeld ?_
        apply Exists.intro
        apply And.intro
        · intro W3 hS3
          go_simp
          try rfl
        try simp only [Act.put, List.getElem_toArray, List.getElem_cons_zero, List.getElem_cons_succ, List.setIfInBounds_toArray, List.set_cons_zero, List.set_cons_succ]
        refine takeY (i := 7) rfl (by kernel_rfl) (by kernel_rfl) (by kernel_rfl) (fun _ _ _ _ h => h) (by rfl) hHeld ?_
        apply Exists.intro
        apply And.intro
        · intro W3 hS3
          go_simp
          try rfl
        try simp only [Act.put, List.getElem_toArray, List.getElem_cons_zero, List.getElem_cons_succ, List.setIfInBounds_toArray, List.set_cons_zero, List.set_cons_succ]
        refine takeY (i := 8) rfl (by kernel_rfl) (by kernel_rfl) (by kernel_rfl) (fun _ _ _ _ h => h) (by rfl) hHeld ?_
        apply Exists.intro
        apply And.intro
        · intro W3 hS3
          go_simp
          try rfl
        try simp only [Act.put, List.getElem_toArray, List.getElem_cons_zero, List.getElem_cons_succ, List.setIfInBounds_toArray, List.set_cons_zero, List.set_cons_succ]
        refine takeY (i := 9) rfl (by kernel_rfl) (by kernel_rfl) (by kernel_rfl) (fun _ _ _ _ h => h) (by rfl) hHeld ?_
        apply Exists.intro
        apply And.intro
        · intro W3 hS3
          go_simp
          try rfl
        try simp only [Act.put, List.getElem_toArray, List.getElem_cons_zero, List.getElem_cons_succ, List.setIfInBounds_toArray, List.set_cons_zero, List.set_cons_succ]
        refine takeY (i := 11) rfl (by kernel_rfl) (by kernel_rfl) (by kernel_rfl) (fun _ _ _ _ h => h) (by rfl) hHeld ?_
        apply Exists.intro
        apply And.intro
        · intro W3 hS3
          go_simp
          try rfl
        try simp only [Act.put, List.getElem_toArray, List.getElem_cons_zero, List.getElem_cons_succ, List.setIfInBounds_toArray, List.set_cons_zero, List.set_cons_succ]
        refine wpAnyH_ready (rs := [3]) (by kernel_rfl) (by simp) ?_
        refine AllReadyH.cons rfl (fun K hK => ?_) AllReadyH.nil
        go_simp
        refine ((N1.out _ hHeld).mono ?_)
        rintro e w6 ⟨v6, rfl, ho6, hb6⟩
        have hk6 := hHeld.call hb6
        obtain ⟨b6, cap6, rfl, hbbb6, hblb6⟩ := OwnR.split ho6 (by omega)
        have hnb6 : b6 ≠ w.heap.size := by have := hHeld.lt; omega
        go_wp2_with fail
        refine hK.out _ _ hk6 (fun _ => ?_)
        clear hK K
        try simp only [Act.put, List.getElem_toArray, List.getElem_cons_zero, List.getElem_cons_succ, List.setIfInBounds_toArray, List.set_cons_zero, List.set_cons_succ]
        refine anchor (S' := KR w.heap.size w6) (fun W h => hk6.trans h) _ _ _ _ ?_
        have hHeld := hk6.self
        obtain ⟨y0, f0, _⟩ := OwnR.cells ho6 rfl (k := j) (by omega)
        rw [HXB.out] at y0 f0
        simp only at y0 f0
        have z1 : ∀ W, KR w.heap.size w6 W → W.cell? ⟨b6, j * 2, none⟩ = some (.int .i64 q) := fun W h => h.cell hnb6 y0
        have z2 : ∀ W, KR w.heap.size w6 W → W.cell? ⟨b6, j * 2 + 1, none⟩ = some (.int .i64 f) := fun W h => h.cell hnb6 f0
        clear y0 f0
        refine takeY (i := 5) rfl (by kernel_rfl) (by kernel_rfl) (by kernel_rfl) (fun _ _ _ _ h => h) (by rfl) hHeld ?_
        apply Exists.intro
        apply And.intro
        · intro W3 hS3
          go_simp
          try rfl
        try simp only [Act.put, List.getElem_toArray, List.getElem_cons_zero, List.getElem_cons_succ, List.setIfInBounds_toArray, List.set_cons_zero, List.set_cons_succ]
        refine takeY (i := 6) rfl (by kernel_rfl) (by kernel_rfl) (by kernel_rfl) (fun _ _ _ _ h => h) (by rfl) hHeld ?_
        apply Exists.intro
        apply And.intro
        · intro W3 hS3
          go_simp
          try rfl
        try simp only [Act.put, List.getElem_toArray, List.getElem_cons_zero, List.getElem_cons_succ, List.setIfInBounds_toArray, List.set_cons_zero, List.set_cons_succ]
        refine wpAnyH_ready (rs := [10]) (by kernel_rfl) (by simp) ?_
        refine AllReadyH.cons rfl (fun K hK => ?_) AllReadyH.nil
        go_simp
        refine ((N2.out _ (hk6.trans hHeld)).mono ?_)
        rintro e w7 ⟨v7, rfl, ho7, hb7⟩
        have hk7 := hHeld.call hb7
        obtain ⟨b7, cap7, rfl, hbbb7, hblb7⟩ := OwnR.split ho7 (by omega)
        have hnb7 : b7 ≠ w.heap.size := by have := hHeld.lt; omega
        go_wp2_with fail
        refine hK.out _ _ hk7 (fun _ => ?_)
        clear hK K
        try simp only [Act.put, List.getElem_toArray, List.getElem_cons_zero, List.getElem_cons_succ, List.setIfInBounds_toArray, List.set_cons_zero, List.set_cons_succ]
        refine anchor (S' := KR w.heap.size w7) (fun W h => hk7.trans h) _ _ _ _ ?_
        have hHeld := hk7.self
        obtain ⟨x0, d0, _⟩ := OwnR.cells ho7 rfl (k := j) (by omega)
        rw [HXA.out] at x0 d0
        simp only at x0 d0
        have z3 : ∀ W, KR w.heap.size w7 W → W.cell? ⟨b7, j * 2, none⟩ = some (.int .i64 p) := fun W h => h.cell hnb7 x0
        have z4 : ∀ W, KR w.heap.size w7 W → W.cell? ⟨b7, j * 2 + 1, none⟩ = some (.int .i64 d) := fun W h => h.cell hnb7 d0
        clear x0 d0 z1 z2
        refine takeY (i := 12) rfl (by kernel_rfl) (by kernel_rfl) (by kernel_rfl) (fun _ _ _ _ h => h) (by rfl) hHeld ?_
        apply Exists.intro
        apply And.intro
        · intro W3 hS3
          go_simp
          try rfl
        try simp only [Act.put, List.getElem_toArray, List.getElem_cons_zero, List.getElem_cons_succ, List.setIfInBounds_toArray, List.set_cons_zero, List.set_cons_succ]
        refine takeY (i := 13) rfl (by kernel_rfl) (by kernel_rfl) (by kernel_rfl) (fun _ _ _ _ h => h) (by rfl) hHeld ?_
        apply Exists.intro
        apply And.intro
        · intro W3 hS3
          go_simp
          try rfl
        try simp only [Act.put, List.getElem_toArray, List.getElem_cons_zero, List.getElem_cons_succ, List.setIfInBounds_toArray, List.set_cons_zero, List.set_cons_succ]
        refine wpAnyH_ready (rs := [14]) (by kernel_rfl) (by simp) ?_
        refine AllReadyH.cons rfl (fun K hK => ?_) AllReadyH.nil
        go_simp
        refine (MN.out _).mono ?_
        rintro e w8 ⟨rfl, hb8⟩
        have hk8 := hHeld.call hb8
        go_wp2_with fail
        refine hK.out _ _ hk8 (fun _ => ?_)
        clear hK K
        try simp only [Act.put, List.getElem_toArray, List.getElem_cons_zero, List.getElem_cons_succ, List.setIfInBounds_toArray, List.set_cons_zero, List.set_cons_succ]
        refine anchor (S' := KR w.heap.size w8) (fun W h => hk8.trans h) _ _ _ _ ?_
        have hHeld := hk8.self
        unfold ratV
        refine wpAnyH_ready (rs := [15]) (by kernel_rfl) (by simp) ?_
        refine AllReadyH.cons rfl (fun K hK => ?_) AllReadyH.nil
        obtain ⟨xo, yo, ⟨c0, c1⟩, f0, f1⟩ := hHeld.cells
        go_simp
        obtain ⟨hk9, r0, r1⟩ := hHeld.store (.int .i64 (rn (q * d - p * f) (f * d))) (.int .i64 (rd (q * d - p * f) (f * d)))
        refine hK.out _ _ hk9 (fun hHeld => ?_)
        clear hK K c0 c1 f0 f1
        try simp only [Act.put, List.getElem_toArray, List.getElem_cons_zero, List.getElem_cons_succ, List.setIfInBounds_toArray, List.set_cons_zero, List.set_cons_succ]
        refine takeY (i := 16) rfl (by kernel_rfl) (by kernel_rfl) (by kernel_rfl) (fun _ _ _ _ h => h) (by rfl) hHeld ?_
        apply Exists.intro
        apply And.intro
        · intro W3 hS3
          go_simp
          try rfl
        try simp only [Act.put, List.getElem_toArray, List.getElem_cons_zero, List.getElem_cons_succ, List.setIfInBounds_toArray, List.set_cons_zero, List.set_cons_succ]
        refine wpAnyH_done (by kernel_rfl) ?_ _
        have hB := Lib.hid ((HAL.out.trans (HB3.out.mono (by rw [HS1.out]; exact Nat.le_succ _))).trans (hk6.bel.trans (hk7.bel.trans (hk8.bel.trans hk9.bel))))
        generalize (w8.setCell ⟨w.heap.size, 0, none⟩ (.int .i64 (rn (q * d - p * f) (f * d)))).setCell ⟨w.heap.size, 1, none⟩ (.int .i64 (rd (q * d - p * f) (f * d))) = w9 at *
        go_wp2
        exact bodyPost_ret (v := tupR (rn (q * d - p * f) (f * d), rd (q * d - p * f) (f * d)) 0) (by unfold tupR; simp [results, Try.results49, go_sem, r0, r1]) rfl ⟨by rw [R.out, A.out]; rfl, hB.out⟩
  · have A : Hid (moreE c n r k = shareE c n r) := Lib.hid (by unfold moreE; rw [if_neg h0])
    have R : Hid (moreV c n r k = (0, 0)) := Lib.hid (by unfold moreV; rw [A.out, if_neg h0])
    have hb : (shareE c n r != 0) = true := bne_iff_ne.2 h0
    have hb2 : (shareE c n r == 0) = false := beq_eq_false_iff_ne.2 h0
    clear h0 hv hal
    go_enter Try.func49, Try.ntmps49
    go_wp2_with fail
    refine (rruled_any _ _ _ _ _ (HV.out.below HAL.out)).mono ?_
    rintro e w' ⟨rfl, rfl⟩
    generalize shareE c n r = se at *
    go_wp2
    refine bodyPost_ret (v := tupR (0, 0) (se)) (by unfold tupR; simp [results, Try.results49, go_sem]) rfl ⟨by rw [R.out, A.out], ?_⟩
    repeat (first | exact Below.refl _ _ | refine Below.setCell ?_ (by simp) _ | refine Below.alloc ?_ (by simp) _)

end Go.Proofs.Ytaakefjblldccaa
