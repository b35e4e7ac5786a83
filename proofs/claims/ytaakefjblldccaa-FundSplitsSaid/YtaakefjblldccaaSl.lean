/- Contracts: by how much less a claimant gets than two in its place (the program). -/
import Derived.Test.YtaakefjblldccaaRq
namespace Go.Proofs.Ytaakefjblldccaa
open Go.RowKit

theorem OwnIr.below {B : Nat} {w w' : World} {g cap : Nat} {l : List Int} (h : OwnIr B w g cap l) (hb : Below w.heap.size w w') : OwnIr B w' g cap l := ⟨own_below h.row hb, h.base⟩

theorem replace_any {B g cap k vb vc : Nat} {c : List Int} {x y : Int} {w : World} (HO : OwnIr B w g cap c) (hk : k < c.length) (h7 : c.length ≤ 7) (hB : B ≤ w.heap.size) (hv : w.heap[vb]? = some (.cells #[.int .i64 x, .int .i64 y] 3 (0, 0))) (hne : vb ≠ g) :
    Calls Try.prog 88 #[.slice (some ⟨g, 0, none⟩) c.length cap, .int .i64 k, .int .i64 ((k : Int) + 1), .slice (some ⟨vb, 0, none⟩) 2 vc] w (GivesTwo B (twoC c k x y) w) := by
  by_cases h1 : k + 1 = c.length
  · exact replace_end HO h1 h7 hB hv
  · by_cases h2 : c.length + 1 ≤ cap
    · exact replace_room (m := c.length - (k + 1)) HO (by omega) (by omega) h7 h2 hB hv hne
    · exact replace_grow (m := c.length - (k + 1)) HO (by omega) (by omega) h7 (by omega) hB hv hne

theorem row_split {W : World} {B n sz : Nat} {e : TypeId} {v : Value} {xs : List Value} (h : W.ownsRow B e sz v n xs) (h0 : 0 < n) : ∃ g cap, v = .slice (some ⟨g, 0, none⟩) n cap ∧ B ≤ g := by
  rcases h.2 with ⟨_, h1⟩ | ⟨g, cp, cur, h1, h2, h3, _⟩
  · omega
  · exact ⟨g, cp, h1, h2⟩
theorem row_lt {W : World} {B g n cap sz : Nat} {e : TypeId} {xs : List Value} (h : W.ownsRow B e sz (.slice (some ⟨g, 0, none⟩) n cap) n xs) : g < W.heap.size := by
  obtain ⟨cur, _, h2, _⟩ := row_parts h
  exact (Array.getElem?_eq_some_iff.1 h2).1
theorem ownsRow_mono {W : World} {B B' n sz : Nat} {e : TypeId} {v : Value} {xs : List Value} (h : W.ownsRow B e sz v n xs) (hB : B' ≤ B) : W.ownsRow B' e sz v n xs := by
  refine ⟨h.1, ?_⟩
  rcases h.2 with h1 | ⟨g, cp, cur, h1, h2, h3⟩
  · exact .inl h1
  · exact .inr ⟨g, cp, cur, h1, Nat.le_trans hB h2, h3⟩

/-- Two in the place of a claim. -/
def two (c : List Int) (k : Nat) (f : Int) : List Int := twoC c k f (c.getD k 0 - f)
def splitE (c : List Int) (n r k f : Int) : Int :=
  if shareE c n r = 0 then (if clmt c k then (if betw 0 f (c.getD k.toNat 0) then (if c.length = 8 then 5 else 0) else 2) else 2) else shareE c n r
def splitV (c : List Int) (n r k f : Int) : Rat2 :=
  if splitE c n r k f = 0 then subR (addR ((shareL (two c k.toNat f) n r).getD k.toNat (0, 0)) ((shareL (two c k.toNat f) n r).getD (k.toNat + 1) (0, 0))) ((shareL c n r).getD k.toNat (0, 0)) else (0, 0)

theorem at_eq {c : List Int} {k : Nat} (hk : k < c.length) : c = c.take k ++ c.getD k 0 :: c.drop (k + 1) := by
  conv => lhs; rw [← List.take_append_drop k c]
  rw [List.drop_eq_getElem_cons hk]
  simp [List.getD_eq_getElem?_getD, hk]
structure SplitOk (c : List Int) (n r : Int) (k : Nat) (f : Int) : Prop where
  cv : Cvl c
  cw : Cvl (two c k f)
  len : (two c k f).length = c.length + 1
  e : shareE (two c k f) n r = 0
  n0 : 0 ≤ n
  n1 : n ≤ tot c
  n2 : n ≤ tot (two c k f)
  r0 : 1 ≤ r
  r1 : r ≤ 4
  a : Okv c (shareL c n r)
  b : Okv (two c k f) (shareL (two c k f) n r)
theorem tot_two {c : List Int} {k : Nat} (hk : k < c.length) (f : Int) : tot (two c k f) = tot c := by
  unfold two twoC
  rw [tot_at2]
  conv => rhs; rw [at_eq hk, tot_at]
  omega
theorem split_ok {c : List Int} {n r : Int} {k : Nat} {f : Int} (h0 : shareE c n r = 0) (hk : k < c.length) (hf : 0 ≤ f ∧ f ≤ c.getD k 0) (h8 : ¬ c.length = 8) : SplitOk c n r k f := by
  obtain ⟨ha, hr0, hr1⟩ := shareE_zero h0
  obtain ⟨hc, hn0, hn1⟩ := askE_ok2 ha
  have hb := hc.holds _ (mem_getD hk)
  have hl : (two c k f).length = c.length + 1 := twoC_len hk
  have hw : Cvl (two c k f) := by
    refine ⟨by omega, by have := hc.hi; omega, fun y hy => ?_⟩
    unfold two twoC at hy
    simp only [List.mem_append, List.mem_cons] at hy
    rcases hy with h | rfl | rfl | h
    · exact hc.holds y (List.mem_of_mem_take h)
    · omega
    · omega
    · exact hc.holds y (List.mem_of_mem_drop h)
  have ht := tot_two hk f
  have e := shareE_mk (r := r) hw hn0 (by omega) ⟨hr0, hr1⟩
  exact ⟨hc, hw, hl, e, hn0, hn1, by omega, hr0, hr1, (shOk h0).okv, (shOk e).okv⟩

theorem addR_bd {x y : Rat2} (hx : Bd2 x) (hy : Bd2 y) : 0 ≤ (addR x y).1 ∧ (addR x y).1 ≤ 200000000000 ∧ 1 ≤ (addR x y).2 ∧ (addR x y).2 ≤ 100000000 := by
  obtain ⟨h1, h2, h3, h4⟩ := hx.mul hy
  obtain ⟨k1, k2, _, _⟩ := hy.mul hx
  unfold addR
  have a := red_pos (n := x.1 * y.2 + y.1 * x.2) (d := x.2 * y.2) h3 (by omega)
  have b := red_bd (n := x.1 * y.2 + y.1 * x.2) (d := x.2 * y.2) (B := 200000000000) h3 (by omega) (by omega)
  omega


set_option maxRecDepth 100000 in
set_option maxHeartbeats 2000000 in
theorem Split_any (v : Value) (c : List Int) (n r k f : Int) (w : World) (hv : IntsAt w v c) :
    Calls Try.prog 50 #[v, .int .i64 n, .int .i64 r, .int .i64 k, .int .i64 f] w fun e w' => e = .returned (tupR (splitV c n r k f) (splitE c n r k f)) ∧ Below w.heap.size w w' := by
  have HV := Lib.hid hv
  have hl := shareV_len c n r
  have hal : Below w.heap.size w (w.alloc (.cells #[.int .i64 0, .int .i64 0] 23)) := (Below.refl _ w).alloc (Nat.le_refl _) _
  have SH := Lib.hid (shared_any v c n r _ (hv.below hal))
  have HAL := Lib.hid hal
  unfold GivesS at SH
  clear hv hal
  by_cases h0 : shareE c n r = 0
  · have E0 := Lib.hid h0
    have K := shOk h0
    have hpos := K.pos
    rw [h0, K.val] at SH
    rw [K.val] at hl
    cases hcm : clmt c k with
    | false =>
      have CM := Lib.hid hcm
      have A : Hid (splitE c n r k f = 2) := Lib.hid (by unfold splitE; rw [if_pos h0, hcm]; rfl)
      have R : Hid (splitV c n r k f = (0, 0)) := Lib.hid (by unfold splitV; rw [A.out]; rfl)
      clear h0 hcm K
      generalize shareL c n r = la at *
      go_enter Try.func50, Try.ntmps50
      go_wp2_with fail
      refine SH.out.mono ?_
      rintro e w1 ⟨v1, rfl, ho1, hb1⟩
      have HBR := Lib.hid (show Below (w.heap.size + 1) (w.alloc (.cells #[.int .i64 0, .int .i64 0] 23)) w1 by
        have := hb1
        rwa [World.size_alloc] at this)
      have HB0 := Lib.hid (HAL.out.trans (HBR.out.mono (Nat.le_succ _)))
      clear ho1 hb1
      go_wp2_with fail
      refine (claimant_any _ _ _ _ (HV.out.below HB0.out)).mono ?_
      rintro e w' ⟨rfl, rfl⟩
      rw [CM.out]
      have hbr := HBR.out
      obtain ⟨⟨c0, c1⟩, f0, f1⟩ := res_cells hbr
      have hB := Lib.hid (res_below hbr (.int .i64 0) (.int .i64 0))
      clear hbr HBR
      go_wp2
      exact bodyPost_ret (v := tupR (0, 0) (2)) (by unfold tupR; simp [results, Try.results50, go_sem, c0, c1]) rfl ⟨by rw [R.out, A.out], hB.out⟩
    | true =>
      have CM := Lib.hid hcm
      obtain ⟨j, rfl, hj⟩ := clmt_nat hcm
      obtain ⟨b, off, cap, rfl, hcc⟩ := ints_cell HV.out (by omega)
      have HCC := Lib.hid hcc
      have HCJ := hcc j hj
      have hj' : (j : Int) < (c.length : Int) := by omega
      cases hfm : betw 0 f (c.getD j 0) with
      | false =>
        have A : Hid (splitE c n r j f = 2) := Lib.hid (by unfold splitE; rw [if_pos h0, hcm, if_pos rfl, Int.toNat_natCast, hfm]; rfl)
        have R : Hid (splitV c n r j f = (0, 0)) := Lib.hid (by unfold splitV; rw [A.out]; rfl)
        generalize c.getD j 0 = ck at *
        have FM := Lib.hid hfm
        clear h0 hcm K hcc hfm
        generalize shareL c n r = la at *
        go_enter Try.func50, Try.ntmps50
        go_wp2_with fail
        refine SH.out.mono ?_
        rintro e w1 ⟨v1, rfl, ho1, hb1⟩
        have HBR := Lib.hid (show Below (w.heap.size + 1) (w.alloc (.cells #[.int .i64 0, .int .i64 0] 23)) w1 by
          have := hb1
          rwa [World.size_alloc] at this)
        have HB0 := Lib.hid (HAL.out.trans (HBR.out.mono (Nat.le_succ _)))
        clear ho1 hb1
        go_wp2_with fail
        refine (claimant_any _ _ _ _ (HV.out.below HB0.out)).mono ?_
        rintro e w' ⟨rfl, rfl⟩
        rw [CM.out]
        have c9 := keep_cell HB0.out HCJ
        clear HCJ
        go_wp2_with fail
        refine (between_any _ _ _ _).mono ?_
        rintro e w' ⟨rfl, rfl⟩
        rw [FM.out]
        have hbr := HBR.out
        obtain ⟨⟨c0, c1⟩, f0, f1⟩ := res_cells hbr
        have hB := Lib.hid (res_below hbr (.int .i64 0) (.int .i64 0))
        clear hbr HBR
        go_wp2
        exact bodyPost_ret (v := tupR (0, 0) (2)) (by unfold tupR; simp [results, Try.results50, go_sem, c0, c1]) rfl ⟨by rw [R.out, A.out], hB.out⟩
      | true =>
        by_cases h8 : c.length = 8
        · have A : Hid (splitE c n r j f = 5) := Lib.hid (by unfold splitE; rw [if_pos h0, hcm, if_pos rfl, Int.toNat_natCast, hfm, if_pos rfl, if_pos h8])
          have R : Hid (splitV c n r j f = (0, 0)) := Lib.hid (by unfold splitV; rw [A.out]; rfl)
          generalize c.getD j 0 = ck at *
          have FM := Lib.hid hfm
          have h8' : ((c.length : Int) == 8) = true := by rw [beq_iff_eq]; omega
          clear h0 hcm K hcc hfm h8
          generalize shareL c n r = la at *
          go_enter Try.func50, Try.ntmps50
          go_wp2_with fail
          refine SH.out.mono ?_
          rintro e w1 ⟨v1, rfl, ho1, hb1⟩
          have HBR := Lib.hid (show Below (w.heap.size + 1) (w.alloc (.cells #[.int .i64 0, .int .i64 0] 23)) w1 by
            have := hb1
            rwa [World.size_alloc] at this)
          have HB0 := Lib.hid (HAL.out.trans (HBR.out.mono (Nat.le_succ _)))
          clear ho1 hb1
          go_wp2_with fail
          refine (claimant_any _ _ _ _ (HV.out.below HB0.out)).mono ?_
          rintro e w' ⟨rfl, rfl⟩
          rw [CM.out]
          have c9 := keep_cell HB0.out HCJ
          clear HCJ
          go_wp2_with fail
          refine (between_any _ _ _ _).mono ?_
          rintro e w' ⟨rfl, rfl⟩
          rw [FM.out]
          have hbr := HBR.out
          obtain ⟨⟨c0, c1⟩, f0, f1⟩ := res_cells hbr
          have hB := Lib.hid (res_below hbr (.int .i64 0) (.int .i64 0))
          clear hbr HBR
          go_wp2
          exact bodyPost_ret (v := tupR (0, 0) (5)) (by unfold tupR; simp [results, Try.results50, go_sem, c0, c1]) rfl ⟨by rw [R.out, A.out], hB.out⟩
        · have A : Hid (splitE c n r j f = 0) := Lib.hid (by unfold splitE; rw [if_pos h0, hcm, if_pos rfl, Int.toNat_natCast, hfm, if_pos rfl, if_neg h8])
          have R : Hid (splitV c n r j f = subR (addR ((shareL (two c j f) n r).getD j (0, 0)) ((shareL (two c j f) n r).getD (j + 1) (0, 0))) ((shareL c n r).getD j (0, 0))) := Lib.hid (by unfold splitV; rw [A.out, if_pos rfl, Int.toNat_natCast])
          have hfb := (betw_iff _ _ _).1 hfm
          have M := split_ok h0 hj hfb h8
          have BA := okv_bd M.cv M.a hj
          have BB := okv_bd M.cw M.b (k := j) (by rw [M.len]; omega)
          have BC := okv_bd M.cw M.b (k := j + 1) (by rw [M.len]; omega)
          have hhi := M.cv.hi
          have hck := M.cv.holds _ (mem_getD hj)
          have hla : (shareL c n r).length = c.length := M.a.1
          have hlb : (shareL (two c j f) n r).length = c.length + 1 := by rw [M.b.1, M.len]
          have SH2 := Lib.hid (fun v' W q => shared_any v' (two c j f) n r W q)
          unfold GivesS at SH2
          rw [(shOk M.e).val, M.e] at SH2
          have LEN := Lib.hid M.len
          have TWO := Lib.hid (show two c j f = twoC c j f (c.getD j 0 - f) from rfl)
          have h8n : ((c.length : Int) == 8) = false := beq_eq_false_iff_ne.2 (by omega)
          have h7 : c.length ≤ 7 := by omega
          clear h0 hcm K hcc M h8
          generalize hck' : c.getD j 0 = ck at *
          have FM := Lib.hid hfm
          clear hck' hfm
          generalize hxa : (shareL c n r).getD j (0, 0) = xa at *
          generalize hxb : (shareL (two c j f) n r).getD j (0, 0) = xb at *
          generalize hxc : (shareL (two c j f) n r).getD (j + 1) (0, 0) = xc at *
          have HXA := Lib.hid hxa
          have HXB := Lib.hid hxb
          have HXC := Lib.hid hxc
          clear hxa hxb hxc
          generalize shareL c n r = la at *
          generalize shareL (two c j f) n r = lb at *
          generalize two c j f = t at *
          have PB := addR_bd BB BC
          have MP := BB.mul BC
          have MQ := BC.mul BB
          obtain ⟨p, d⟩ := xa
          obtain ⟨q, z⟩ := xb
          obtain ⟨s, u⟩ := xc
          obtain ⟨ba1, ba2, ba3, ba4⟩ := BA
          have PL := Lib.hid (fun W => plus_any q z s u W (by simp only at MP; omega) (by simp only at MQ; omega) (by simp only at MP; omega))
          have EP := Lib.hid (show addR (q, z) (s, u) = (rn (q * u + s * z) (z * u), rd (q * u + s * z) (z * u)) from rfl)
          generalize addR (q, z) (s, u) = xs at *
          obtain ⟨P, D⟩ := xs
          simp only at ba1 ba2 ba3 ba4 PB
          have m1 : 0 ≤ P * d ∧ P * d ≤ 200000000000 * 10000 := ⟨Int.mul_nonneg (by omega) (by omega), Int.mul_le_mul (by omega) (by omega) (by omega) (by omega)⟩
          have m2 : 0 ≤ p * D ∧ p * D ≤ 10000000 * 100000000 := ⟨Int.mul_nonneg (by omega) (by omega), Int.mul_le_mul (by omega) (by omega) (by omega) (by omega)⟩
          have m3 : 1 ≤ D * d ∧ D * d ≤ 100000000 * 10000 := ⟨mul_one_le (by omega) (by omega), Int.mul_le_mul (by omega) (by omega) (by omega) (by omega)⟩
          have MN := Lib.hid (fun W => minus_any P D p d W (by omega) (by omega) (by omega) (by omega))
          unfold subR at R
          simp only at R
          have HBND := Lib.hid (And.intro hla hlb)
          have PV := Lib.hid (show ratV (q * u + s * z) (z * u) = .agg #[.int .i64 P, .int .i64 D] by
            have h := EP.out
            simp only [Prod.mk.injEq] at h
            rw [h.1, h.2]; rfl)
          have hj0 : (0 : Int) ≤ (j : Int) + 1 := by omega
          have hja : (j : Int) < (la.length : Int) := by omega
          have hjb : (j : Int) < (lb.length : Int) := by omega
          have hjc : (j : Int) + 1 < (lb.length : Int) := by omega
          have hjn : ((j : Int) + 1).toNat = j + 1 := by omega
          have hla' : la.length ≤ c.length ∧ c.length ≤ la.length := by omega
          have hlb' : lb.length ≤ c.length + 1 ∧ c.length + 1 ≤ lb.length := by omega
          clear ba1 ba2 ba3 ba4 PB MP MQ m1 m2 m3 EP BB BC hla hlb
          go_enter Try.func50, Try.ntmps50
          go_wp2_with fail
          refine SH.out.mono ?_
          rintro e w1 ⟨v1, rfl, ho1, hb1⟩
          have HBR := Lib.hid (show Below (w.heap.size + 1) (w.alloc (.cells #[.int .i64 0, .int .i64 0] 23)) w1 by
            have := hb1
            rwa [World.size_alloc] at this)
          have HB0 := Lib.hid (HAL.out.trans (HBR.out.mono (Nat.le_succ _)))
          obtain ⟨ba, ca, rfl, hba, _⟩ := OwnR.split ho1 hpos
          have HOA := Lib.hid ho1
          have HBA := Lib.hid (show ba ≠ w.heap.size by simp at hba; omega)
          clear ho1 hb1 SH hba
          go_wp2_with fail
          refine (claimant_any _ _ _ _ (HV.out.below HB0.out)).mono ?_
          rintro e w' ⟨rfl, rfl⟩
          rw [CM.out]
          have c9 := keep_cell HB0.out HCJ
          clear HCJ
          go_wp2_with fail
          refine (between_any _ _ _ _).mono ?_
          rintro e w' ⟨rfl, rfl⟩
          rw [FM.out]
          go_upto_region 8 with fail
          go_cut [14] (fun s14 wx => ∃ g cg, s14 = .slice (some ⟨g, 0, none⟩) t.length cg ∧ OwnIr w1.heap.size wx g cg t ∧ Below w1.heap.size w1 wx)
          case first =>
            have e1 : IntKind.i64.wrap ((j : Int) + 1) = (j : Int) + 1 := IntWalk.i64_in _ (by omega)
            have e2 : IntKind.i64.wrap (ck - f) = ck - f := IntWalk.i64_in _ (by omega)
            have r1 : ∀ W, KB w1 W → W.cell? ⟨b, off + j, none⟩ = some (.int .i64 ck) := fun W h => keep_cell h c9
            have CL := Lib.hid (fun W (h : KB w1 W) => Try.slices_Clone_int b off c.length cap c W (Nat.le_refl _) (by omega) (fun i hi => keep_cell h (keep_cell HB0.out (HCC.out i hi))))
            clear c9
            refine wp_region_held_drew (S := fun W => KB w1 W) (by kernel_rfl) (KB.drew (KB.refl _)) (fun hHeld => ?_)
            refine takeY (i := 0) rfl (by kernel_rfl) (by kernel_rfl) (by kernel_rfl) (fun _ _ _ _ h => h) (by rfl) hHeld ?_
            apply Exists.intro
            apply And.intro
            · intro W3 hS3
              go_simp
              try rfl
            try simp only [Act.put, List.getElem_toArray, List.getElem_cons_zero, List.getElem_cons_succ, List.setIfInBounds_toArray, List.set_cons_zero, List.set_cons_succ]
            refine takeY (i := 2) rfl (by kernel_rfl) (by kernel_rfl) (by kernel_rfl) (fun _ _ _ _ h => h) (by rfl) hHeld ?_
            apply Exists.intro
            apply And.intro
            · intro W3 hS3
              go_simp
              try rfl
            try simp only [Act.put, List.getElem_toArray, List.getElem_cons_zero, List.getElem_cons_succ, List.setIfInBounds_toArray, List.set_cons_zero, List.set_cons_succ]
            refine takeY (i := 3) rfl (by kernel_rfl) (by kernel_rfl) (by kernel_rfl) (fun _ _ _ _ h => h) (by rfl) hHeld ?_
            apply Exists.intro
            apply And.intro
            · intro W3 hS3
              go_simp
              try rfl
            try simp only [Act.put, List.getElem_toArray, List.getElem_cons_zero, List.getElem_cons_succ, List.setIfInBounds_toArray, List.set_cons_zero, List.set_cons_succ]
            refine takeY (i := 4) rfl (by kernel_rfl) (by kernel_rfl) (by kernel_rfl) (fun _ _ _ _ h => h) (by rfl) hHeld ?_
            apply Exists.intro
            apply And.intro
            · intro W3 hS3
              go_simp
              try rfl
            try simp only [Act.put, List.getElem_toArray, List.getElem_cons_zero, List.getElem_cons_succ, List.setIfInBounds_toArray, List.set_cons_zero, List.set_cons_succ]
            refine takeY (i := 5) rfl (by kernel_rfl) (by kernel_rfl) (by kernel_rfl) (fun _ _ _ _ h => h) (by rfl) hHeld ?_
            apply Exists.intro
            apply And.intro
            · intro W3 hS3
              go_simp
              try rfl
            try simp only [Act.put, List.getElem_toArray, List.getElem_cons_zero, List.getElem_cons_succ, List.setIfInBounds_toArray, List.set_cons_zero, List.set_cons_succ]
            refine takeY (i := 6) rfl (by kernel_rfl) (by kernel_rfl) (by kernel_rfl) (fun _ _ _ _ h => h) (by rfl) hHeld ?_
            apply Exists.intro
            apply And.intro
            · intro W3 hS3
              go_simp
              try rfl
            try simp only [Act.put, List.getElem_toArray, List.getElem_cons_zero, List.getElem_cons_succ, List.setIfInBounds_toArray, List.set_cons_zero, List.set_cons_succ]
            refine takeY (i := 7) rfl (by kernel_rfl) (by kernel_rfl) (by kernel_rfl) (fun _ _ _ _ h => h) (by rfl) hHeld ?_
            apply Exists.intro
            apply And.intro
            · intro W3 hS3
              go_simp
              try rfl
            try simp only [Act.put, List.getElem_toArray, List.getElem_cons_zero, List.getElem_cons_succ, List.setIfInBounds_toArray, List.set_cons_zero, List.set_cons_succ]
            refine takeY (i := 8) rfl (by kernel_rfl) (by kernel_rfl) (by kernel_rfl) (fun _ _ _ _ h => h) (by rfl) hHeld ?_
            apply Exists.intro
            apply And.intro
            · intro W3 hS3
              go_simp
              try rfl
            try simp only [Act.put, List.getElem_toArray, List.getElem_cons_zero, List.getElem_cons_succ, List.setIfInBounds_toArray, List.set_cons_zero, List.set_cons_succ]
            refine takeY (i := 9) rfl (by kernel_rfl) (by kernel_rfl) (by kernel_rfl) (fun _ _ _ _ h => h) (by rfl) hHeld ?_
            apply Exists.intro
            apply And.intro
            · intro W3 hS3
              go_simp
              try rfl
            try simp only [Act.put, List.getElem_toArray, List.getElem_cons_zero, List.getElem_cons_succ, List.setIfInBounds_toArray, List.set_cons_zero, List.set_cons_succ]
            refine takeY (i := 10) rfl (by kernel_rfl) (by kernel_rfl) (by kernel_rfl) (fun _ _ _ _ h => h) (by rfl) hHeld ?_
            apply Exists.intro
            apply And.intro
            · intro W3 hS3
              go_simp
              try rfl
            try simp only [Act.put, List.getElem_toArray, List.getElem_cons_zero, List.getElem_cons_succ, List.setIfInBounds_toArray, List.set_cons_zero, List.set_cons_succ]
            refine takeY (i := 11) rfl (by kernel_rfl) (by kernel_rfl) (by kernel_rfl) (fun _ _ _ _ h => h) (by rfl) hHeld ?_
            apply Exists.intro
            apply And.intro
            · intro W3 hS3
              go_simp
              try rfl
            try simp only [Act.put, List.getElem_toArray, List.getElem_cons_zero, List.getElem_cons_succ, List.setIfInBounds_toArray, List.set_cons_zero, List.set_cons_succ]
            refine wpAnyH_ready (rs := [1, 12]) (by kernel_rfl) (by simp) ?_
            refine AllReadyH.cons rfl (fun K hK => ?_) (AllReadyH.cons rfl (fun K hK => ?_) AllReadyH.nil)
            · go_simp
              refine ((CL.out _ hHeld).mono ?_)
              rintro e w5 ⟨v5, rfl, ho5, hnn, hb5⟩
              rw [List.take_length] at ho5
              obtain ⟨g5, cap5, rfl, hg5⟩ := row_split ho5 (by omega)
              have hk5 := hHeld.call hb5
              have HOI : OwnIr w1.heap.size w5 g5 cap5 c := ⟨ho5, hg5⟩
              go_wp2_with fail
              refine hK.out _ _ hk5 (fun hHeld => ?_)
              clear hK K hnn
              try simp only [Act.put, List.getElem_toArray, List.getElem_cons_zero, List.getElem_cons_succ, List.setIfInBounds_toArray, List.set_cons_zero, List.set_cons_succ]
              refine wpAnyH_ready (rs := [12]) (by kernel_rfl) (by simp) ?_
              refine AllReadyH.cons rfl (fun K hK => ?_) AllReadyH.nil
              go_simp
              refine hK.out _ _ (KB.alloc hHeld _) (fun hHeld => ?_)
              clear hK K
              try simp only [Act.put, List.getElem_toArray, List.getElem_cons_zero, List.getElem_cons_succ, List.setIfInBounds_toArray, List.set_cons_zero, List.set_cons_succ]
              refine wpAnyH_ready (rs := [13]) (by kernel_rfl) (by simp) ?_
              refine AllReadyH.cons rfl (fun K hK => ?_) AllReadyH.nil
              go_simp
              refine ((replace_any (B := w1.heap.size) (vb := w5.heap.size) (HOI.below ((Below.refl _ _).alloc (Nat.le_refl _) _)) hj h7 (by have := hHeld.size; exact this) (World.alloc_heap_new w5 _) (by have := (row_lt HOI.row); omega)).mono ?_)
              rintro e w7 ⟨g7, cap7, he, ho7, hb7⟩
              rw [← TWO.out] at he ho7
              subst he
              have hk7 : KB w1 w7 := Below.trans hHeld hb7
              go_wp2_with fail
              refine hK.out _ _ hk7 (fun hHeld => ?_)
              clear hK K
              try simp only [Act.put, List.getElem_toArray, List.getElem_cons_zero, List.getElem_cons_succ, List.setIfInBounds_toArray, List.set_cons_zero, List.set_cons_succ]
              refine takeY (i := 14) rfl (by kernel_rfl) (by kernel_rfl) (by kernel_rfl) (fun _ _ _ _ h => h) (by rfl) hHeld ?_
              apply Exists.intro
              apply And.intro
              · intro W3 hS3
                go_simp
                try rfl
              try simp only [Act.put, List.getElem_toArray, List.getElem_cons_zero, List.getElem_cons_succ, List.setIfInBounds_toArray, List.set_cons_zero, List.set_cons_succ]
              refine wpAnyH_done (by kernel_rfl) ?_ _
              go_wp2_with fail
              go_meet
              exact ⟨g7, cap7, rfl, ho7, hk7⟩
            · go_simp
              have hal : KB w1 (w1.alloc (.cells #[.int .i64 f, .int .i64 (ck - f)] 3)).drew := (KB.alloc (KB.refl w1) _).drew
              have hnew : (w1.alloc (.cells #[.int .i64 f, .int .i64 (ck - f)] 3)).drew.heap[w1.heap.size]? = some (.cells #[.int .i64 f, .int .i64 (ck - f)] 3 (0, 0)) := World.alloc_heap_new w1 _
              refine hK.out _ _ hal (fun hHeld => ?_)
              clear hK K
              try simp only [Act.put, List.getElem_toArray, List.getElem_cons_zero, List.getElem_cons_succ, List.setIfInBounds_toArray, List.set_cons_zero, List.set_cons_succ]
              generalize (w1.alloc (.cells #[.int .i64 f, .int .i64 (ck - f)] 3)).drew = w4 at *
              refine wpAnyH_ready (rs := [1]) (by kernel_rfl) (by simp) ?_
              refine AllReadyH.cons rfl (fun K hK => ?_) AllReadyH.nil
              go_simp
              refine ((CL.out _ hHeld).mono ?_)
              rintro e w5 ⟨v5, rfl, ho5, hnn, hb5⟩
              rw [List.take_length] at ho5
              obtain ⟨g5, cap5, rfl, hg5⟩ := row_split ho5 (by omega)
              have hk5 := hHeld.call hb5
              have h41 : w1.heap.size < w4.heap.size := (Array.getElem?_eq_some_iff.1 hnew).1
              have HOI : OwnIr w1.heap.size w5 g5 cap5 c := ⟨ownsRow_mono ho5 (Nat.le_of_lt h41), by omega⟩
              have hnew5 := (hb5.block _ h41).trans hnew
              go_wp2_with fail
              refine hK.out _ _ hk5 (fun hHeld => ?_)
              clear hK K hnn
              try simp only [Act.put, List.getElem_toArray, List.getElem_cons_zero, List.getElem_cons_succ, List.setIfInBounds_toArray, List.set_cons_zero, List.set_cons_succ]
              refine wpAnyH_ready (rs := [13]) (by kernel_rfl) (by simp) ?_
              refine AllReadyH.cons rfl (fun K hK => ?_) AllReadyH.nil
              go_simp
              refine ((replace_any (B := w1.heap.size) (vb := w1.heap.size) (HOI) hj h7 (by have := hHeld.size; exact this) (hnew5) (by omega)).mono ?_)
              rintro e w7 ⟨g7, cap7, he, ho7, hb7⟩
              rw [← TWO.out] at he ho7
              subst he
              have hk7 : KB w1 w7 := Below.trans hHeld hb7
              go_wp2_with fail
              refine hK.out _ _ hk7 (fun hHeld => ?_)
              clear hK K
              try simp only [Act.put, List.getElem_toArray, List.getElem_cons_zero, List.getElem_cons_succ, List.setIfInBounds_toArray, List.set_cons_zero, List.set_cons_succ]
              refine takeY (i := 14) rfl (by kernel_rfl) (by kernel_rfl) (by kernel_rfl) (fun _ _ _ _ h => h) (by rfl) hHeld ?_
              apply Exists.intro
              apply And.intro
              · intro W3 hS3
                go_simp
                try rfl
              try simp only [Act.put, List.getElem_toArray, List.getElem_cons_zero, List.getElem_cons_succ, List.setIfInBounds_toArray, List.set_cons_zero, List.set_cons_succ]
              refine wpAnyH_done (by kernel_rfl) ?_ _
              go_wp2_with fail
              go_meet
              exact ⟨g7, cap7, rfl, ho7, hk7⟩
          case rest =>
            obtain ⟨g, cg, rfl, hog, hbw⟩ := hcut
            have HI := Lib.hid (hog.ints (by rw [LEN.out]; omega))
            have HBW := Lib.hid hbw
            clear hog hbw c9
            go_wp2_with fail
            refine (SH2.out _ _ HI.out).mono ?_
            rintro e w8 ⟨v8, rfl, ho8, hb8⟩
            have HB8 := Lib.hid (below_trans HBW.out hb8)
            have HBR8 := Lib.hid (show Below (w.heap.size + 1) (w.alloc (.cells #[.int .i64 0, .int .i64 0] 23)) w8 from HBR.out.trans (HB8.out.mono (by have := HBR.out.size; simpa using this)))
            obtain ⟨bb, cb, rfl, hbb, hbl⟩ := OwnR.split ho8 (by omega)
            have hbn : bb ≠ w.heap.size := by have h1 := HBR.out.size; have h2 := HBW.out.size; simp at h1; omega
            obtain ⟨x0, d0, _⟩ := OwnR.cells HOA.out rfl (k := j) (by omega)
            obtain ⟨y0, f0, _⟩ := OwnR.cells ho8 rfl (k := j) (by omega)
            obtain ⟨y1, f1, _⟩ := OwnR.cells ho8 rfl (k := j + 1) (by omega)
            rw [HXA.out] at x0 d0
            rw [HXB.out] at y0 f0
            rw [HXC.out] at y1 f1
            simp only at x0 d0 y0 f0 y1 f1
            have x1 := keep_cell HB8.out x0
            have d1 := keep_cell HB8.out d0
            have z1 : ∀ W, KR w.heap.size w8 W → W.cell? ⟨ba, j * 2, none⟩ = some (.int .i64 p) := fun W h => h.cell HBA.out x1
            have z2 : ∀ W, KR w.heap.size w8 W → W.cell? ⟨ba, j * 2 + 1, none⟩ = some (.int .i64 d) := fun W h => h.cell HBA.out d1
            have z3 : ∀ W, KR w.heap.size w8 W → W.cell? ⟨bb, j * 2, none⟩ = some (.int .i64 q) := fun W h => h.cell hbn y0
            have z4 : ∀ W, KR w.heap.size w8 W → W.cell? ⟨bb, j * 2 + 1, none⟩ = some (.int .i64 z) := fun W h => h.cell hbn f0
            have z5 : ∀ W, KR w.heap.size w8 W → W.cell? ⟨bb, (j + 1) * 2, none⟩ = some (.int .i64 s) := fun W h => h.cell hbn y1
            have z6 : ∀ W, KR w.heap.size w8 W → W.cell? ⟨bb, (j + 1) * 2 + 1, none⟩ = some (.int .i64 u) := fun W h => h.cell hbn f1
            have e1 : IntKind.i64.wrap ((j : Int) + 1) = (j : Int) + 1 := IntWalk.i64_in _ (by omega)
            clear x0 d0 y0 f0 y1 f1 x1 d1 hbb hbl ho8 hb8
            go_wp2
            refine wp_region_held_drew (S := fun W => KR w.heap.size w8 W) (by kernel_rfl) (KR.start HBR8.out).drew (fun hHeld => ?_)
            refine takeY (i := 0) rfl (by kernel_rfl) (by kernel_rfl) (by kernel_rfl) (fun _ _ _ _ h => h) (by rfl) hHeld ?_
            apply Exists.intro
            apply And.intro
            · intro W3 hS3
              go_simp
              try rfl
            try simp only [Act.put, List.getElem_toArray, List.getElem_cons_zero, List.getElem_cons_succ, List.setIfInBounds_toArray, List.set_cons_zero, List.set_cons_succ]
            refine takeY (i := 1) rfl (by kernel_rfl) (by kernel_rfl) (by kernel_rfl) (fun _ _ _ _ h => h) (by rfl) hHeld ?_
            apply Exists.intro
            apply And.intro
            · intro W3 hS3
              go_simp
              try rfl
            try simp only [Act.put, List.getElem_toArray, List.getElem_cons_zero, List.getElem_cons_succ, List.setIfInBounds_toArray, List.set_cons_zero, List.set_cons_succ]
            refine takeY (i := 2) rfl (by kernel_rfl) (by kernel_rfl) (by kernel_rfl) (fun _ _ _ _ h => h) (by rfl) hHeld ?_
            apply Exists.intro
            apply And.intro
            · intro W3 hS3
              go_simp
              try rfl
            try simp only [Act.put, List.getElem_toArray, List.getElem_cons_zero, List.getElem_cons_succ, List.setIfInBounds_toArray, List.set_cons_zero, List.set_cons_succ]
            refine takeY (i := 3) rfl (by kernel_rfl) (by kernel_rfl) (by kernel_rfl) (fun _ _ _ _ h => h) (by rfl) hHeld ?_
            apply Exists.intro
            apply And.intro
            · intro W3 hS3
              go_simp
              try rfl
            try simp only [Act.put, List.getElem_toArray, List.getElem_cons_zero, List.getElem_cons_succ, List.setIfInBounds_toArray, List.set_cons_zero, List.set_cons_succ]
            refine takeY (i := 4) rfl (by kernel_rfl) (by kernel_rfl) (by kernel_rfl) (fun _ _ _ _ h => h) (by rfl) hHeld ?_
            apply Exists.intro
            apply And.intro
            · intro W3 hS3
              go_simp
              try rfl
            try simp only [Act.put, List.getElem_toArray, List.getElem_cons_zero, List.getElem_cons_succ, List.setIfInBounds_toArray, List.set_cons_zero, List.set_cons_succ]
            refine takeY (i := 5) rfl (by kernel_rfl) (by kernel_rfl) (by kernel_rfl) (fun _ _ _ _ h => h) (by rfl) hHeld ?_
            apply Exists.intro
            apply And.intro
            · intro W3 hS3
              go_simp
              try rfl
            try simp only [Act.put, List.getElem_toArray, List.getElem_cons_zero, List.getElem_cons_succ, List.setIfInBounds_toArray, List.set_cons_zero, List.set_cons_succ]
            refine takeY (i := 6) rfl (by kernel_rfl) (by kernel_rfl) (by kernel_rfl) (fun _ _ _ _ h => h) (by rfl) hHeld ?_
            apply Exists.intro
            apply And.intro
            · intro W3 hS3
              go_simp
              try rfl
            try simp only [Act.put, List.getElem_toArray, List.getElem_cons_zero, List.getElem_cons_succ, List.setIfInBounds_toArray, List.set_cons_zero, List.set_cons_succ]
            refine takeY (i := 7) rfl (by kernel_rfl) (by kernel_rfl) (by kernel_rfl) (fun _ _ _ _ h => h) (by rfl) hHeld ?_
            apply Exists.intro
            apply And.intro
            · intro W3 hS3
              go_simp
              try rfl
            try simp only [Act.put, List.getElem_toArray, List.getElem_cons_zero, List.getElem_cons_succ, List.setIfInBounds_toArray, List.set_cons_zero, List.set_cons_succ]
            refine takeY (i := 8) rfl (by kernel_rfl) (by kernel_rfl) (by kernel_rfl) (fun _ _ _ _ h => h) (by rfl) hHeld ?_
            apply Exists.intro
            apply And.intro
            · intro W3 hS3
              go_simp
              try rfl
            try simp only [Act.put, List.getElem_toArray, List.getElem_cons_zero, List.getElem_cons_succ, List.setIfInBounds_toArray, List.set_cons_zero, List.set_cons_succ]
            refine takeY (i := 10) rfl (by kernel_rfl) (by kernel_rfl) (by kernel_rfl) (fun _ _ _ _ h => h) (by rfl) hHeld ?_
            apply Exists.intro
            apply And.intro
            · intro W3 hS3
              go_simp
              try rfl
            try simp only [Act.put, List.getElem_toArray, List.getElem_cons_zero, List.getElem_cons_succ, List.setIfInBounds_toArray, List.set_cons_zero, List.set_cons_succ]
            refine takeY (i := 11) rfl (by kernel_rfl) (by kernel_rfl) (by kernel_rfl) (fun _ _ _ _ h => h) (by rfl) hHeld ?_
            apply Exists.intro
            apply And.intro
            · intro W3 hS3
              go_simp
              try rfl
            try simp only [Act.put, List.getElem_toArray, List.getElem_cons_zero, List.getElem_cons_succ, List.setIfInBounds_toArray, List.set_cons_zero, List.set_cons_succ]
            refine takeY (i := 12) rfl (by kernel_rfl) (by kernel_rfl) (by kernel_rfl) (fun _ _ _ _ h => h) (by rfl) hHeld ?_
            apply Exists.intro
            apply And.intro
            · intro W3 hS3
              go_simp
              try rfl
            try simp only [Act.put, List.getElem_toArray, List.getElem_cons_zero, List.getElem_cons_succ, List.setIfInBounds_toArray, List.set_cons_zero, List.set_cons_succ]
            refine takeY (i := 13) rfl (by kernel_rfl) (by kernel_rfl) (by kernel_rfl) (fun _ _ _ _ h => h) (by rfl) hHeld ?_
            apply Exists.intro
            apply And.intro
            · intro W3 hS3
              go_simp
              try rfl
            try simp only [Act.put, List.getElem_toArray, List.getElem_cons_zero, List.getElem_cons_succ, List.setIfInBounds_toArray, List.set_cons_zero, List.set_cons_succ]
            refine wpAnyH_ready (rs := [9]) (by kernel_rfl) (by simp) ?_
            refine AllReadyH.cons rfl (fun K hK => ?_) AllReadyH.nil
            go_simp
            refine (PL.out _).mono ?_
            rintro e w9 ⟨rfl, hb9⟩
            have hk9 := hHeld.call hb9
            rw [PV.out]
            go_wp2_with fail
            refine hK.out _ _ hk9 (fun hHeld => ?_)
            clear hK K
            try simp only [Act.put, List.getElem_toArray, List.getElem_cons_zero, List.getElem_cons_succ, List.setIfInBounds_toArray, List.set_cons_zero, List.set_cons_succ]
            refine wpAnyH_ready (rs := [14]) (by kernel_rfl) (by simp) ?_
            refine AllReadyH.cons rfl (fun K hK => ?_) AllReadyH.nil
            go_simp
            refine (MN.out _).mono ?_
            rintro e w10 ⟨rfl, hb10⟩
            have hk10 := hHeld.call hb10
            go_wp2_with fail
            refine hK.out _ _ hk10 (fun hHeld => ?_)
            clear hK K
            try simp only [Act.put, List.getElem_toArray, List.getElem_cons_zero, List.getElem_cons_succ, List.setIfInBounds_toArray, List.set_cons_zero, List.set_cons_succ]
            unfold ratV
            refine wpAnyH_ready (rs := [15]) (by kernel_rfl) (by simp) ?_
            refine AllReadyH.cons rfl (fun K hK => ?_) AllReadyH.nil
            obtain ⟨xo, yo, ⟨c0, c1⟩, f0, f1⟩ := hHeld.cells
            go_simp
            obtain ⟨hk11, r0, r1⟩ := hHeld.store (.int .i64 (rn (P * d - p * D) (D * d))) (.int .i64 (rd (P * d - p * D) (D * d)))
            refine hK.out _ _ hk11 (fun hHeld => ?_)
            clear hK K c0 c1 f0 f1
            try simp only [Act.put, List.getElem_toArray, List.getElem_cons_zero, List.getElem_cons_succ, List.setIfInBounds_toArray, List.set_cons_zero, List.set_cons_succ]
            refine takeY (i := 16) rfl (by kernel_rfl) (by kernel_rfl) (by kernel_rfl) (fun _ _ _ _ h => h) (by rfl) hHeld ?_
            apply Exists.intro
            apply And.intro
            · intro W3 hS3
              go_simp
              try rfl
            try simp only [Act.put, List.getElem_toArray, List.getElem_cons_zero, List.getElem_cons_succ, List.setIfInBounds_toArray, List.set_cons_zero, List.set_cons_succ]
            refine wpAnyH_done (by kernel_rfl) ?_ _
            have hB := Lib.hid ((HB0.out.trans (HB8.out.mono HB0.out.size)).trans hk11.bel)
            generalize (w10.setCell ⟨w.heap.size, 0, none⟩ (.int .i64 (rn (P * d - p * D) (D * d)))).setCell ⟨w.heap.size, 1, none⟩ (.int .i64 (rd (P * d - p * D) (D * d))) = w11 at *
            go_wp2
            exact bodyPost_ret (v := tupR (rn (P * d - p * D) (D * d), rd (P * d - p * D) (D * d)) 0) (by unfold tupR; simp [results, Try.results50, go_sem, r0, r1]) rfl ⟨by rw [R.out, A.out]; rfl, hB.out⟩
  · have A : Hid (splitE c n r k f = shareE c n r) := Lib.hid (by unfold splitE; rw [if_neg h0])
    have R : Hid (splitV c n r k f = (0, 0)) := Lib.hid (by unfold splitV; rw [A.out, if_neg h0])
    have hb : (shareE c n r != 0) = true := bne_iff_ne.2 h0
    clear h0
    generalize shareE c n r = se at *
    go_enter Try.func50, Try.ntmps50
    go_wp2_with fail
    refine SH.out.mono ?_
    rintro e w1 ⟨v1, rfl, ho1, hb1⟩
    have HBR := Lib.hid (show Below (w.heap.size + 1) (w.alloc (.cells #[.int .i64 0, .int .i64 0] 23)) w1 by
      have := hb1
      rwa [World.size_alloc] at this)
    have HB0 := Lib.hid (HAL.out.trans (HBR.out.mono (Nat.le_succ _)))
    clear ho1 hb1
    have hbr := HBR.out
    obtain ⟨⟨c0, c1⟩, f0, f1⟩ := res_cells hbr
    have hB := Lib.hid (res_below hbr (.int .i64 0) (.int .i64 0))
    clear hbr HBR
    go_wp2
    exact bodyPost_ret (v := tupR (0, 0) (se)) (by unfold tupR; simp [results, Try.results50, go_sem, c0, c1]) rfl ⟨by rw [R.out, A.out], hB.out⟩

end Go.Proofs.Ytaakefjblldccaa
