/- Contracts: by how much an award is greater with a greater claim, of both. -/
import Derived.Test.YtaakefjblldccaaKb
import Derived.Deep.RegionHeld3
import Derived.StillTailTactics
import Derived.Deep.DeepCutAuto
import Derived.Test.YtaakefjblldccaaLawC
import Derived.Test.YtaakefjblldccaaLs
import Derived.Test.YtaakefjblldccaaSp
namespace Go.Proofs.Ytaakefjblldccaa
open Go.RowKit



def clmt (c : List Int) (k : Int) : Bool := betw 0 k ((c.length : Int) - 1)
def incC (c : List Int) (k : Nat) : List Int := c.set k (c.getD k 0 + 1)
def moreE (c : List Int) (n r k : Int) : Int := if shareE c n r = 0 then (if clmt c k then (if c.getD k.toNat 0 = 1000 then 5 else 0) else 2) else shareE c n r
def moreV (c : List Int) (n r k : Int) : Rat2 :=
  if moreE c n r k = 0 then subR ((shareL (incC c k.toNat) n r).getD k.toNat (0, 0)) ((shareL c n r).getD k.toNat (0, 0)) else (0, 0)

theorem clmt_nat {c : List Int} {k : Int} (h : clmt c k = true) : ∃ j : Nat, k = j ∧ j < c.length := by
  have := (betw_iff _ _ _).1 h
  obtain ⟨j, rfl⟩ := Int.eq_ofNat_of_zero_le this.1
  exact ⟨j, rfl, by omega⟩

theorem cvl_set {c : List Int} (h : Cvl c) {k : Nat} {x : Int} (hx : 0 ≤ x ∧ x ≤ 1000) : Cvl (c.set k x) := by
  refine ⟨by rw [List.length_set]; exact h.lo, by rw [List.length_set]; exact h.hi, fun y hy => ?_⟩
  rcases List.mem_or_eq_of_mem_set hy with hy | rfl
  · exact h.holds y hy
  · exact hx
theorem tot_set (c : List Int) {k : Nat} (hk : k < c.length) (x : Int) : tot (c.set k x) = tot c - c.getD k 0 + x := by
  rw [tot_sumf, tot_sumf]
  have : ∀ (q : List Int) (i : Nat) (x : Int), i < q.length → sumf id (q.set i x) = sumf id q - q.getD i 0 + x := by
    intro q
    induction q with
    | nil => intro i x h; simp at h
    | cons y q ih =>
      intro i x h
      rcases i with _ | i
      · simp [sumf]; omega
      · rw [List.set_cons_succ, List.getD_cons_succ]
        simp only [sumf]
        rw [ih i x (by simpa using h)]
        omega
  exact this c k x hk

/-- What a good share has at a claimant. -/
structure Bd2 (x : Rat2) : Prop where
  n0 : 0 ≤ x.1
  n1 : x.1 ≤ 10000000
  d0 : 1 ≤ x.2
  d1 : x.2 ≤ 10000
theorem okv_bd {c : List Int} {l : List Rat2} (hc : Cvl c) (h : Okv c l) {k : Nat} (hk : k < c.length) : Bd2 (l.getD k (0, 0)) := by
  obtain ⟨h1, h2, h3, h4⟩ := h.2 k hk
  have hb := hc.holds _ (mem_getD hk)
  have : c.getD k 0 * (l.getD k (0, 0)).2 ≤ 1000 * (l.getD k (0, 0)).2 := Int.mul_le_mul_of_nonneg_right (by omega) (by omega)
  exact ⟨h3, by omega, h1, h2⟩
theorem Bd2.mul {a b : Rat2} (h : Bd2 a) (k : Bd2 b) : 0 ≤ a.1 * b.2 ∧ a.1 * b.2 ≤ 100000000000 ∧ 1 ≤ a.2 * b.2 ∧ a.2 * b.2 ≤ 100000000 := by
  obtain ⟨h1, h2, h3, h4⟩ := h
  obtain ⟨k1, k2, k3, k4⟩ := k
  refine ⟨Int.mul_nonneg h1 (by omega), ?_, ?_, ?_⟩
  · exact Int.mul_le_mul (a := a.1) (b := b.2) (c := 10000000) (d := 10000) h2 k4 (by omega) (by omega)
  · have := Int.mul_le_mul (a := 1) (b := 1) (c := a.2) (d := b.2) h3 k3 (by omega) (by omega); omega
  · exact Int.mul_le_mul (a := a.2) (b := b.2) (c := 10000) (d := 10000) h4 k4 (by omega) (by omega)

/-- What a good More has. -/
structure MoreOk (c : List Int) (n r : Int) (k : Nat) : Prop where
  cv : Cvl c
  cw : Cvl (incC c k)
  e : shareE (incC c k) n r = 0
  n0 : 0 ≤ n
  n1 : n ≤ tot c
  n2 : n ≤ tot (incC c k)
  r0 : 1 ≤ r
  r1 : r ≤ 4
  a : Okv c (shareL c n r)
  b : Okv (incC c k) (shareL (incC c k) n r)
theorem shareE_mk {c : List Int} {n r : Int} (hc : Cvl c) (h0 : 0 ≤ n) (h1 : n ≤ tot c) (hr : 1 ≤ r ∧ r ≤ 4) : shareE c n r = 0 := by
  unfold shareE
  rw [if_pos (askE_of hc h0 h1), if_pos ((betw_iff _ _ _).2 hr)]
theorem more_ok {c : List Int} {n r : Int} {k : Nat} (h0 : shareE c n r = 0) (hk : k < c.length) (hm : ¬ c.getD k 0 = 1000) : MoreOk c n r k := by
  obtain ⟨ha, hr0, hr1⟩ := shareE_zero h0
  obtain ⟨hc, hn0, hn1⟩ := askE_ok2 ha
  have hb := hc.holds _ (mem_getD hk)
  have hw : Cvl (incC c k) := cvl_set hc (by omega)
  have ht : tot (incC c k) = tot c + 1 := by unfold incC; rw [tot_set c hk]; omega
  have e := shareE_mk (r := r) hw hn0 (by omega) ⟨hr0, hr1⟩
  exact ⟨hc, hw, e, hn0, hn1, by omega, hr0, hr1, (shOk h0).okv, (shOk e).okv⟩

theorem more_cvl {c : List Int} {n r : Int} (h0 : shareE c n r = 0) : Cvl c := (askE_ok2 (shareE_zero h0).1).1

set_option maxHeartbeats 400000 in
theorem claimant_any (v : Value) (c : List Int) (k : Int) (w : World) (hv : IntsAt w v c) :
    Calls Try.prog 84 #[v, .int .i64 k] w fun e w' => e = .returned (.bool (clmt c k)) ∧ w = w' := by
  obtain ⟨a, cap, rfl, hl, hq⟩ := hv
  clear hq
  have e1 : IntKind.i64.wrap ((c.length : Int) - 1) = (c.length : Int) - 1 := IntWalk.i64_in _ (by omega)
  go_enter Try.func84, Try.ntmps84
  go_wp2_with fail
  refine (between_any _ _ _ _).mono ?_
  rintro e w' ⟨rfl, rfl⟩
  go_wp2
  go_ret
  exact ⟨rfl, rfl⟩

set_option maxHeartbeats 400000 in
theorem rminus_any (a b c d : Int) (w : World) (h1 : -1000000000000000000 ≤ a * d ∧ a * d ≤ 1000000000000000000) (h2 : -1000000000000000000 ≤ c * b ∧ c * b ≤ 1000000000000000000) (h3 : 1 ≤ b * d ∧ b * d ≤ 1000000000000000000) :
    Calls Try.prog 87 #[.agg #[.int .i64 a, .int .i64 b], .agg #[.int .i64 c, .int .i64 d]] w fun e w' => e = .returned (ratV (a * d - c * b) (b * d)) ∧ Below w.heap.size w w' := by
  have hal := two_boxes w (.int .i64 a) (.int .i64 b) (.int .i64 c) (.int .i64 d) 23
  go_enter Try.func87, Try.ntmps87
  go_wp2_with fail
  refine (rRatio_any _ _ _ (by omega) (by omega) (by omega) (by omega)).mono ?_
  rintro e w1 ⟨rfl, hb1⟩
  generalize hW : (w.alloc (.cells #[.int .i64 a, .int .i64 b] 23)).alloc (.cells #[.int .i64 c, .int .i64 d] 23) = W at *
  have hs : W.heap.size = w.heap.size + 2 := by rw [← hW]; simp
  have hbr : Below (W.heap.size + 1) (W.alloc (.cells #[.int .i64 0, .int .i64 0] 23)) w1 := by rwa [World.size_alloc] at hb1
  have e2 : w.heap.size + 1 + 1 = W.heap.size := by omega
  obtain ⟨⟨c0, c1⟩, f0, f1⟩ := res_cells hbr
  have hB := Lib.hid (below_trans hal (res_below hbr (.int .i64 (rn (a * d - c * b) (b * d))) (.int .i64 (rd (a * d - c * b) (b * d)))))
  rw [← e2] at c0 c1 f0 f1 hB
  clear hW hs hb1 hbr hal e2
  unfold ratV
  go_wp2
  exact bodyPost_ret (v := ratV (a * d - c * b) (b * d)) (by unfold ratV; simp [results, Try.results87, go_sem, c0, c1]) rfl ⟨rfl, hB.out⟩

/-- A row of ints that is one's own. -/
structure OwnIr (B : Nat) (w : World) (g cap : Nat) (l : List Int) : Prop where
  row : w.ownsRow B 3 1 (.slice (some ⟨g, 0, none⟩) l.length cap) l.length (l.map (Value.int .i64))
  base : B ≤ g
theorem OwnIr.set {B : Nat} {w : World} {g cap : Nat} {l : List Int} (h : OwnIr B w g cap l) (j : Nat) (x : Int) : OwnIr B (w.setCell ⟨g, j, none⟩ (.int .i64 x)) g cap (l.set j x) := by
  refine ⟨?_, h.base⟩
  rw [List.length_set, List.map_set]
  exact (h.row.stored j (.int .i64 x)).1
theorem OwnIr.ints {B : Nat} {w : World} {g cap : Nat} {l : List Int} (h : OwnIr B w g cap l) (hl : l.length ≤ 100000) : IntsAt w (.slice (some ⟨g, 0, none⟩) l.length cap) l := own_ints h.row (by omega)


set_option maxRecDepth 100000 in
set_option maxHeartbeats 4000000 in
theorem More_any (v : Value) (c : List Int) (n r k : Int) (w : World) (hv : IntsAt w v c) :
    Calls Try.prog 48 #[v, .int .i64 n, .int .i64 r, .int .i64 k] w fun e w' => e = .returned (tupR (moreV c n r k) (moreE c n r k)) ∧ Below w.heap.size w w' := by
  have HV := Lib.hid hv
  have hl := shareV_len c n r
  have hal : Below w.heap.size w (w.alloc (.cells #[.int .i64 0, .int .i64 0] 23)) := (Below.refl _ w).alloc (Nat.le_refl _) _
  have SH := Lib.hid (shared_any v c n r _ (hv.below hal))
  have HAL := Lib.hid hal
  unfold GivesS at SH
  clear hv hal
  by_cases h0 : shareE c n r = 0
  · have E0 := Lib.hid h0
    have K := shOk h0
    have hpos := K.pos
    rw [h0, K.val] at SH
    rw [K.val] at hl
    cases hcm : clmt c k with
    | false =>
      have CM := Lib.hid hcm
      have A : Hid (moreE c n r k = 2) := Lib.hid (by unfold moreE; rw [if_pos h0, hcm]; rfl)
      have R : Hid (moreV c n r k = (0, 0)) := Lib.hid (by unfold moreV; rw [A.out]; rfl)
      clear h0 hcm K
      generalize shareL c n r = la at *
      go_enter Try.func48, Try.ntmps48
      go_wp2_with fail
      refine SH.out.mono ?_
      rintro e w1 ⟨v1, rfl, ho1, hb1⟩
      have HBR := Lib.hid (show Below (w.heap.size + 1) (w.alloc (.cells #[.int .i64 0, .int .i64 0] 23)) w1 by
        have := hb1
        rwa [World.size_alloc] at this)
      have HB0 := Lib.hid (HAL.out.trans (HBR.out.mono (Nat.le_succ _)))
      clear ho1 hb1
      go_wp2_with fail
      refine (claimant_any _ _ _ _ (HV.out.below HB0.out)).mono ?_
      rintro e w' ⟨rfl, rfl⟩
      rw [CM.out]
      have hbr := HBR.out
      obtain ⟨⟨c0, c1⟩, f0, f1⟩ := res_cells hbr
      have hB := Lib.hid (res_below hbr (.int .i64 0) (.int .i64 0))
      clear hbr HBR
      go_wp2
      exact bodyPost_ret (v := tupR (0, 0) (2)) (by unfold tupR; simp [results, Try.results48, go_sem, c0, c1]) rfl ⟨by rw [R.out, A.out], hB.out⟩
    | true =>
      have CM := Lib.hid hcm
      obtain ⟨j, rfl, hj⟩ := clmt_nat hcm
      by_cases hM : c.getD j 0 = 1000
      · have A : Hid (moreE c n r j = 5) := Lib.hid (by unfold moreE; rw [if_pos h0, hcm, if_pos rfl, Int.toNat_natCast, if_pos hM])
        have R : Hid (moreV c n r j = (0, 0)) := Lib.hid (by unfold moreV; rw [A.out]; rfl)
        obtain ⟨b, off, cap, rfl, hcc⟩ := ints_cell HV.out (by omega)
        have HM := Lib.hid hM
        have HCC := Lib.hid (hcc j hj)
        have hj' : (j : Int) < (c.length : Int) := by omega
        clear h0 hcm K hM hcc
        generalize shareL c n r = la at *
        go_enter Try.func48, Try.ntmps48
        go_wp2_with fail
        refine SH.out.mono ?_
        rintro e w1 ⟨v1, rfl, ho1, hb1⟩
        have HBR := Lib.hid (show Below (w.heap.size + 1) (w.alloc (.cells #[.int .i64 0, .int .i64 0] 23)) w1 by
          have := hb1
          rwa [World.size_alloc] at this)
        have HB0 := Lib.hid (HAL.out.trans (HBR.out.mono (Nat.le_succ _)))
        clear ho1 hb1
        go_wp2_with fail
        refine (claimant_any _ _ _ _ (HV.out.below HB0.out)).mono ?_
        rintro e w' ⟨rfl, rfl⟩
        rw [CM.out]
        have c9 := keep_cell HB0.out HCC.out
        rw [HM.out] at c9
        have hbr := HBR.out
        obtain ⟨⟨c0, c1⟩, f0, f1⟩ := res_cells hbr
        have hB := Lib.hid (res_below hbr (.int .i64 0) (.int .i64 0))
        clear hbr HBR
        go_wp2
        exact bodyPost_ret (v := tupR (0, 0) (5)) (by unfold tupR; simp [results, Try.results48, go_sem, c0, c1]) rfl ⟨by rw [R.out, A.out], hB.out⟩
      · have A : Hid (moreE c n r j = 0) := Lib.hid (by unfold moreE; rw [if_pos h0, hcm, if_pos rfl, Int.toNat_natCast, if_neg hM])
        have R : Hid (moreV c n r j = subR ((shareL (incC c j) n r).getD j (0, 0)) ((shareL c n r).getD j (0, 0))) := Lib.hid (by unfold moreV; rw [A.out, if_pos rfl, Int.toNat_natCast])
        have M := more_ok h0 hj hM
        have BA := okv_bd M.cv M.a hj
        have BB := okv_bd M.cw M.b (k := j) (by unfold incC; rw [List.length_set]; exact hj)
        have MU1 := BB.mul BA
        have MU2 := BA.mul BB
        obtain ⟨b, off, cap, rfl, hcc⟩ := ints_cell HV.out (by omega)
        have HCC := Lib.hid hcc
        have HCJ := hcc j hj
        have hj' : (j : Int) < (c.length : Int) := by omega
        have hhi := M.cv.hi
        have hck := M.cv.holds _ (mem_getD hj)
        have hla : (shareL c n r).length = c.length := M.a.1
        have hlb : (shareL (incC c j) n r).length = c.length := by rw [M.b.1]; unfold incC; rw [List.length_set]
        have SH2 := Lib.hid (fun v' W q => shared_any v' (incC c j) n r W q)
        unfold GivesS at SH2
        rw [(shOk M.e).val, M.e] at SH2
        have INC := Lib.hid (show incC c j = c.set j (c.getD j 0 + 1) from rfl)
        have LIN := Lib.hid (show (incC c j).length = c.length by unfold incC; rw [List.length_set])
        have hMd : (c.getD j 0 == 1000) = false := beq_eq_false_iff_ne.2 hM
        clear h0 hcm K hcc M hM
        generalize hck' : c.getD j 0 = ck at *
        have CK := Lib.hid hck'
        clear hck'
        generalize hxa : (shareL c n r).getD j (0, 0) = xa at *
        generalize hxb : (shareL (incC c j) n r).getD j (0, 0) = xb at *
        have HXA := Lib.hid hxa
        have HXB := Lib.hid hxb
        clear hxa hxb
        generalize shareL c n r = la at *
        generalize shareL (incC c j) n r = lb at *
        obtain ⟨p, d⟩ := xa
        obtain ⟨q, f⟩ := xb
        obtain ⟨ba1, ba2, ba3, ba4⟩ := BA
        obtain ⟨bb1, bb2, bb3, bb4⟩ := BB
        unfold subR at R
        simp only at MU1 MU2 ba1 ba2 ba3 ba4 bb1 bb2 bb3 bb4 R
        have MN := Lib.hid (fun W => minus_any q f p d W (by omega) (by omega) (by omega) (by omega))
        have HBND := Lib.hid (And.intro hla hlb)
        clear MU1 MU2 ba1 ba2 ba3 ba4 bb1 bb2 bb3 bb4
        go_enter Try.func48, Try.ntmps48
        go_wp2_with fail
        refine SH.out.mono ?_
        rintro e w1 ⟨v1, rfl, ho1, hb1⟩
        have HBR := Lib.hid (show Below (w.heap.size + 1) (w.alloc (.cells #[.int .i64 0, .int .i64 0] 23)) w1 by
          have := hb1
          rwa [World.size_alloc] at this)
        have HB0 := Lib.hid (HAL.out.trans (HBR.out.mono (Nat.le_succ _)))
        have HA1 := Lib.hid (ho1.at hl)
        clear ho1 hb1 SH
        go_wp2_with fail
        refine (claimant_any _ _ _ _ (HV.out.below HB0.out)).mono ?_
        rintro e w' ⟨rfl, rfl⟩
        rw [CM.out]
        have c9 := keep_cell HB0.out HCJ
        have CL := Lib.hid (Try.slices_Clone_int b off c.length cap c w1 (Nat.le_refl _) (by omega) (fun i hi => keep_cell HB0.out (HCC.out i hi)))
        go_wp2_with fail
        refine CL.out.mono ?_
        rintro e w2 ⟨v2, rfl, ho2, hnn, hb2⟩
        rw [List.take_length] at ho2
        obtain ⟨g2, cap2, cur2, rfl, hg2, hh2, hq2⟩ : ∃ g cap cur, v2 = .slice (some ⟨g, 0, none⟩) c.length cap ∧ w1.heap.size ≤ g ∧ w2.heap[g]? = some (.cells cur 3 (0, 0)) ∧ True := by
          rcases ho2.2 with ⟨_, h0⟩ | ⟨g, cp, cur, h1, h2, h3, _⟩
          · omega
          · exact ⟨g, cp, cur, h1, h2, h3, trivial⟩
        have k2 := (ho2.cellAt j (by rw [Nat.mul_one]; exact hj)).trans (show _ = some (Value.int .i64 ck) by rw [← CK.out]; simp [List.getD_eq_getElem?_getD, hj])
        have f2 := ho2.frozenAt j
        have HB2 := Lib.hid hb2
        have HO2 := Lib.hid ho2
        have HG2 := Lib.hid hg2
        clear hnn hb2 ho2 hg2 hh2 hq2 hMd c9 HCJ
        have HOI := Lib.hid (show OwnIr w1.heap.size w2 g2 cap2 c from ⟨HO2.out, HG2.out⟩)
        have HW3 := Lib.hid ((HOI.out.set j (ck + 1)).ints (by rw [List.length_set]; omega))
        have HB3 := Lib.hid (HB2.out.setCell (p := ⟨g2, j, none⟩) HG2.out (.int .i64 (ck + 1)))
        rw [List.length_set, ← INC.out] at HW3
        go_upto_region 10 with fail
        generalize w2.setCell ⟨g2, j, none⟩ (.int .i64 (ck + 1)) = w3 at *
        clear k2 f2
        go_wp2_with fail
        refine (SH2.out _ _ HW3.out).mono ?_
        rintro e w4 ⟨v4, rfl, ho4, hb4⟩
        have HB4 := Lib.hid (below_trans HB3.out hb4)
        have HBR4 := Lib.hid (show Below (w.heap.size + 1) (w.alloc (.cells #[.int .i64 0, .int .i64 0] 23)) w4 from HBR.out.trans (HB4.out.mono (by have := HBR.out.size; simpa using this)))
        have HA4 := HA1.out.below HB4.out
        have HX4 := ho4.at (by omega)
        obtain ⟨ba, oa, ca, _, hva, hra⟩ := rats_cell HA4 (by omega)
        obtain ⟨bb, ob, cb, _, hvb, hrb⟩ := rats_cell HX4 (by omega)
        subst hva hvb
        obtain ⟨x0, d0⟩ := hra j (by omega)
        obtain ⟨y0, f0'⟩ := hrb j (by omega)
        rw [HXA.out] at x0 d0
        rw [HXB.out] at y0 f0'
        simp only at x0 d0 y0 f0'
        have hja : (j : Int) < (la.length : Int) := by omega
        have hjb : (j : Int) < (lb.length : Int) := by omega
        clear hra hrb HA4 HX4 ho4 hb4
        go_wp2
        go_still_tail 8, (by kernel_rfl)
        change wpList _ _ _ _ _ w4.drew
        go_wp2_with fail
        refine (MN.out _).mono ?_
        rintro e w5 ⟨rfl, hb5⟩
        have hbr : Below (w.heap.size + 1) (w.alloc (.cells #[.int .i64 0, .int .i64 0] 23)) w5 := HBR4.out.drew.trans (hb5.mono (by have := HBR4.out.size; simpa using this))
        obtain ⟨⟨c0, c1⟩, f0, f1⟩ := res_cells hbr
        have hB := Lib.hid (res_below hbr (.int .i64 (rn (q * d - p * f) (f * d))) (.int .i64 (rd (q * d - p * f) (f * d))))
        clear x0 d0 y0 f0' hbr hb5
        unfold ratV
        go_wp2
        exact bodyPost_ret (v := tupR (rn (q * d - p * f) (f * d), rd (q * d - p * f) (f * d)) 0) (by unfold tupR; simp [results, Try.results48, go_sem, c0, c1]) rfl ⟨by rw [R.out, A.out]; rfl, hB.out⟩
  · have A : Hid (moreE c n r k = shareE c n r) := Lib.hid (by unfold moreE; rw [if_neg h0])
    have R : Hid (moreV c n r k = (0, 0)) := Lib.hid (by unfold moreV; rw [A.out, if_neg h0])
    have hb : (shareE c n r != 0) = true := bne_iff_ne.2 h0
    clear h0
    generalize shareE c n r = se at *
    go_enter Try.func48, Try.ntmps48
    go_wp2_with fail
    refine SH.out.mono ?_
    rintro e w1 ⟨v1, rfl, ho1, hb1⟩
    have HBR := Lib.hid (show Below (w.heap.size + 1) (w.alloc (.cells #[.int .i64 0, .int .i64 0] 23)) w1 by
      have := hb1
      rwa [World.size_alloc] at this)
    have HB0 := Lib.hid (HAL.out.trans (HBR.out.mono (Nat.le_succ _)))
    clear ho1 hb1
    have hbr := HBR.out
    obtain ⟨⟨c0, c1⟩, f0, f1⟩ := res_cells hbr
    have hB := Lib.hid (res_below hbr (.int .i64 0) (.int .i64 0))
    clear hbr HBR
    go_wp2
    exact bodyPost_ret (v := tupR (0, 0) (se)) (by unfold tupR; simp [results, Try.results48, go_sem, c0, c1]) rfl ⟨by rw [R.out, A.out], hB.out⟩

end Go.Proofs.Ytaakefjblldccaa
