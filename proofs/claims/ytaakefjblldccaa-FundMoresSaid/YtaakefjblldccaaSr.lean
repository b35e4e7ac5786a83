/- Contracts: by how much less a claimant gets than two in its place (the reference). -/
import Derived.Test.YtaakefjblldccaaSl
import Derived.Test.YtaakefjblldccaaMr
namespace Go.Proofs.Ytaakefjblldccaa
open Go.RowKit

/-- A slice no longer than its capacity. -/
def CapOk (v : Value) : Prop := ∃ a n c, v = .slice a n c ∧ n ≤ c ∧ c ≤ 9223372036854775807

theorem share_form (c : List Int) (n r : Int) {k : Nat} (hk : k < c.length) : (shareL c n r).getD k (0, 0) = red (frF c n r (c.getD k 0)) (frQ c n r) := by
  rw [share_frac, getD_map0 hk]

theorem take_at {w : World} {b off j : Nat} {c : List Int} (h : ∀ i, i < c.length → w.cell? ⟨b, off + i, none⟩ = some (.int .i64 (c.getD i 0))) {i : Nat} {x : Value} (hi : ((c.take j).map (Value.int .i64))[i]? = some x) : w.cell? ⟨b, off + i, none⟩ = some x := by
  rw [List.getElem?_map, List.getElem?_take] at hi
  by_cases h1 : i < j
  · rw [if_pos h1] at hi
    by_cases h2 : i < c.length
    · rw [h i h2]
      simp [h2] at hi
      rw [← hi]
      simp [List.getD_eq_getElem?_getD, h2]
    · rw [List.getElem?_eq_none (by omega)] at hi
      simp at hi
  · rw [if_neg h1] at hi
    simp at hi
theorem drop_at {w : World} {b off j : Nat} {c : List Int} (h : ∀ i, i < c.length → w.cell? ⟨b, off + i, none⟩ = some (.int .i64 (c.getD i 0))) {i : Nat} {x : Value} (hi : ((c.drop j).map (Value.int .i64))[i]? = some x) : w.cell? ⟨b, off + (j + i), none⟩ = some x := by
  rw [List.getElem?_map, List.getElem?_drop] at hi
  by_cases h2 : j + i < c.length
  · rw [h _ h2]
    simp [h2] at hi
    rw [← hi]
    simp [List.getD_eq_getElem?_getD, h2]
  · rw [List.getElem?_eq_none (by omega)] at hi
    simp at hi
theorem mul_bd {a b A B : Int} (h1 : -A ≤ a) (h2 : a ≤ A) (h3 : 0 ≤ b ∧ b ≤ B) : -A * B ≤ a * b ∧ a * b ≤ A * B := by
  have h4 : 0 ≤ A := by omega
  have k1 : a * b ≤ A * b := Int.mul_le_mul_of_nonneg_right h2 h3.1
  have k2 : A * b ≤ A * B := Int.mul_le_mul_of_nonneg_left h3.2 h4
  have k3 : -A * b ≤ a * b := Int.mul_le_mul_of_nonneg_right h1 h3.1
  have k4 : -A * B ≤ -A * b := by rw [Int.neg_mul, Int.neg_mul]; omega
  omega
theorem subR_bd {x y : Rat2} (hx : Bd2 x) (hy : Bd2 y) : -100000000000 ≤ (subR x y).1 ∧ (subR x y).1 ≤ 100000000000 ∧ 1 ≤ (subR x y).2 ∧ (subR x y).2 ≤ 100000000 := by
  obtain ⟨h1, h2, h3, h4⟩ := hx.mul hy
  obtain ⟨k1, k2, _, _⟩ := hy.mul hx
  unfold subR
  have b := red_bd (n := x.1 * y.2 - y.1 * x.2) (d := x.2 * y.2) (B := 100000000000) h3 (by omega) (by omega)
  omega
theorem subR_bd2 {x y : Rat2} (hx : -100000000000 ≤ x.1 ∧ x.1 ≤ 100000000000 ∧ 1 ≤ x.2 ∧ x.2 ≤ 100000000) (hy : Bd2 y) : -2000000000000000 ≤ (subR x y).1 ∧ (subR x y).1 ≤ 2000000000000000 ∧ 1 ≤ (subR x y).2 ∧ (subR x y).2 ≤ 1000000000000 := by
  obtain ⟨h1, h2, h3, h4⟩ := hy
  have m1 : -100000000000 * 10000 ≤ x.1 * y.2 ∧ x.1 * y.2 ≤ 100000000000 * 10000 := mul_bd (by omega) (by omega) (by omega)
  have m2 : 0 ≤ y.1 * x.2 ∧ y.1 * x.2 ≤ 10000000 * 100000000 := ⟨Int.mul_nonneg (by omega) (by omega), Int.mul_le_mul (by omega) (by omega) (by omega) (by omega)⟩
  have m3 : 1 ≤ x.2 * y.2 ∧ x.2 * y.2 ≤ 100000000 * 10000 := ⟨mul_one_le (by omega) (by omega), Int.mul_le_mul (by omega) (by omega) (by omega) (by omega)⟩
  unfold subR
  have b := red_bd (n := x.1 * y.2 - y.1 * x.2) (d := x.2 * y.2) (B := 2000000000000000) m3.1 (by omega) (by omega)
  omega


/-- What a region keeps that reads a ratio and stores into new memory. -/
structure KC (w5 : World) (b o : Nat) (x y : Value) (W : World) : Prop where
  bel : Below w5.heap.size w5 W
  c0 : W.cell? ⟨b, o, none⟩ = some x
  c1 : W.cell? ⟨b, o + 1, none⟩ = some y
theorem KC.call {w5 W w2 : World} {b o : Nat} {x y : Value} (h : KC w5 b o x y W) (hb : Below W.heap.size W w2) : KC w5 b o x y w2 := ⟨below_trans h.bel hb, keep_cell hb h.c0, keep_cell hb h.c1⟩
theorem KC.alloc {w5 W : World} {b o : Nat} {x y : Value} (h : KC w5 b o x y W) (ob : Obj) : KC w5 b o x y (W.alloc ob) := h.call ((Below.refl _ _).alloc (Nat.le_refl _) ob)
theorem KC.store {w5 W : World} {b o : Nat} {x y : Value} (h : KC w5 b o x y W) {g : Nat} (hg : w5.heap.size ≤ g) (hne : b ≠ g) (u v : Value) : KC w5 b o x y ((W.setCell ⟨g, 0, none⟩ u).setCell ⟨g, 1, none⟩ v) := by
  have hk : ∀ k, k ≠ g → ((W.setCell ⟨g, 0, none⟩ u).setCell ⟨g, 1, none⟩ v).heap[k]? = W.heap[k]? := fun k hk => (Below.heap_setCell _ _ _ k hk).trans (Below.heap_setCell _ _ _ k hk)
  exact ⟨(h.bel.setCell (p := ⟨g, 0, none⟩) hg u).setCell (p := ⟨g, 1, none⟩) hg v, (World.cell?_of_block (hk b hne)).trans h.c0, (World.cell?_of_block (hk b hne)).trans h.c1⟩
theorem store_two {W : World} {g : Nat} {x y : Value} {T : TypeId} (h1 : W.heap[g]? = some (.cells #[x, y] T (0, 0))) (a b : Value) : ((W.setCell ⟨g, 0, none⟩ a).setCell ⟨g, 1, none⟩ b).heap[g]? = some (.cells #[a, b] T (0, 0)) := by
  have h2 : (W.setCell ⟨g, 0, none⟩ a).heap[g]? = some (.cells #[a, y] T (0, 0)) := by
    obtain ⟨hlt, hk⟩ := Array.getElem?_eq_some_iff.1 h1
    show (W.heap.modify g _)[g]? = _
    rw [Array.getElem?_eq_getElem (by rw [Array.size_modify]; exact hlt), Array.getElem_modify_self, hk]
    rfl
  obtain ⟨hlt, hk⟩ := Array.getElem?_eq_some_iff.1 h2
  show ((W.setCell ⟨g, 0, none⟩ a).heap.modify g _)[g]? = _
  rw [Array.getElem?_eq_getElem (by rw [Array.size_modify]; exact hlt), Array.getElem_modify_self, hk]
  rfl
theorem two_facts {W : World} {g : Nat} {x y : Value} {T : TypeId} (h1 : W.heap[g]? = some (.cells #[x, y] T (0, 0))) : (W.cell? ⟨g, 0, none⟩ = some x ∧ W.cell? ⟨g, 1, none⟩ = some y) ∧ W.frozen? ⟨g, 0, none⟩ = false ∧ W.frozen? ⟨g, 1, none⟩ = false :=
  ⟨⟨by simp [World.cell?, h1], by simp [World.cell?, h1]⟩, by simp [World.frozen?, h1], by simp [World.frozen?, h1]⟩

set_option maxRecDepth 100000 in
set_option maxHeartbeats 2000000 in
theorem rSplit_any (v : Value) (c : List Int) (n r k f : Int) (w : World) (hv : IntsAt w v c) (hcp : CapOk v) :
    Calls Try.prog 51 #[v, .int .i64 n, .int .i64 r, .int .i64 k, .int .i64 f] w fun e w' => e = .returned (tupR (splitV c n r k f) (splitE c n r k f)) ∧ Below w.heap.size w w' := by
  have HV := Lib.hid hv
  have hal : Below w.heap.size w (w.alloc (.cells #[.int .i64 0, .int .i64 0] 23)) := (Below.refl _ w).alloc (Nat.le_refl _) _
  have HAL := Lib.hid hal
  by_cases h0 : shareE c n r = 0
  · have E0 := Lib.hid h0
    have hcv := (more_cvl h0)
    have hlo := hcv.lo
    have hhi := hcv.hi
    obtain ⟨b, off, cap, rfl, hcc⟩ := ints_cell hv (by omega)
    have hcap : c.length ≤ cap ∧ cap ≤ 9223372036854775807 := by
      obtain ⟨a', n', c', h1, h2, h3⟩ := hcp
      simp only [Value.slice.injEq] at h1
      obtain ⟨-, rfl, rfl⟩ := h1
      exact ⟨h2, h3⟩
    have e1 : IntKind.i64.wrap ((c.length : Int) - 1) = (c.length : Int) - 1 := IntWalk.i64_in _ (by omega)
    cases hcm : clmt c k with
    | false =>
      have CM := Lib.hid hcm
      have A : Hid (splitE c n r k f = 2) := Lib.hid (by unfold splitE; rw [if_pos h0, hcm]; rfl)
      have R : Hid (splitV c n r k f = (0, 0)) := Lib.hid (by unfold splitV; rw [A.out]; rfl)
      clear h0 hcm hcc hv hcv hal hcp hcap
      go_enter Try.func51, Try.ntmps51
      go_wp2_with fail
      refine (rruled_any _ _ _ _ _ (HV.out.below HAL.out)).mono ?_
      rintro e w' ⟨rfl, rfl⟩
      rw [E0.out]
      go_wp2_with fail
      refine (within_any _ _ _ _).mono ?_
      rintro e w' ⟨rfl, rfl⟩
      rw [show betw 0 _ ((c.length : Int) - 1) = _ from CM.out]
      go_wp2
      refine bodyPost_ret (v := tupR (0, 0) (2)) (by unfold tupR; simp [results, Try.results51, go_sem]) rfl ⟨by rw [R.out, A.out], ?_⟩
      repeat (first | exact Below.refl _ _ | refine Below.setCell ?_ (by simp) _ | refine Below.alloc ?_ (by simp) _)
    | true =>
      have CM := Lib.hid hcm
      obtain ⟨j, rfl, hj⟩ := clmt_nat hcm
      have hj' : (j : Int) < (c.length : Int) := by omega
      have HCJ := keep_cell hal (hcc j hj)
      cases hfm : betw 0 f (c.getD j 0) with
      | false =>
        have A : Hid (splitE c n r j f = 2) := Lib.hid (by unfold splitE; rw [if_pos h0, hcm, if_pos rfl, Int.toNat_natCast, hfm]; rfl)
        have R : Hid (splitV c n r j f = (0, 0)) := Lib.hid (by unfold splitV; rw [A.out]; rfl)
        generalize c.getD j 0 = ck at *
        have FM := Lib.hid hfm
        clear h0 hcm hcc hv hcv hal hfm hcp hcap
        go_enter Try.func51, Try.ntmps51
        go_wp2_with fail
        refine (rruled_any _ _ _ _ _ (HV.out.below HAL.out)).mono ?_
        rintro e w' ⟨rfl, rfl⟩
        rw [E0.out]
        go_wp2_with fail
        refine (within_any _ _ _ _).mono ?_
        rintro e w' ⟨rfl, rfl⟩
        rw [show betw 0 _ ((c.length : Int) - 1) = _ from CM.out]
        go_wp2_with fail
        refine (within_any _ _ _ _).mono ?_
        rintro e w' ⟨rfl, rfl⟩
        rw [FM.out]
        go_wp2
        refine bodyPost_ret (v := tupR (0, 0) (2)) (by unfold tupR; simp [results, Try.results51, go_sem]) rfl ⟨by rw [R.out, A.out], ?_⟩
        repeat (first | exact Below.refl _ _ | refine Below.setCell ?_ (by simp) _ | refine Below.alloc ?_ (by simp) _)
      | true =>
        by_cases h8 : c.length = 8
        · have A : Hid (splitE c n r j f = 5) := Lib.hid (by unfold splitE; rw [if_pos h0, hcm, if_pos rfl, Int.toNat_natCast, hfm, if_pos rfl, if_pos h8])
          have R : Hid (splitV c n r j f = (0, 0)) := Lib.hid (by unfold splitV; rw [A.out]; rfl)
          generalize c.getD j 0 = ck at *
          have FM := Lib.hid hfm
          have h8' : ((c.length : Int) == 8) = true := by rw [beq_iff_eq]; omega
          clear h0 hcm hcc hv hcv hal hfm h8 hcp hcap
          go_enter Try.func51, Try.ntmps51
          go_wp2_with fail
          refine (rruled_any _ _ _ _ _ (HV.out.below HAL.out)).mono ?_
          rintro e w' ⟨rfl, rfl⟩
          rw [E0.out]
          go_wp2_with fail
          refine (within_any _ _ _ _).mono ?_
          rintro e w' ⟨rfl, rfl⟩
          rw [show betw 0 _ ((c.length : Int) - 1) = _ from CM.out]
          go_wp2_with fail
          refine (within_any _ _ _ _).mono ?_
          rintro e w' ⟨rfl, rfl⟩
          rw [FM.out]
          go_wp2
          refine bodyPost_ret (v := tupR (0, 0) (5)) (by unfold tupR; simp [results, Try.results51, go_sem]) rfl ⟨by rw [R.out, A.out], ?_⟩
          repeat (first | exact Below.refl _ _ | refine Below.setCell ?_ (by simp) _ | refine Below.alloc ?_ (by simp) _)
        · have A : Hid (splitE c n r j f = 0) := Lib.hid (by unfold splitE; rw [if_pos h0, hcm, if_pos rfl, Int.toNat_natCast, hfm, if_pos rfl, if_neg h8])
          have R : Hid (splitV c n r j f = subR (addR ((shareL (two c j f) n r).getD j (0, 0)) ((shareL (two c j f) n r).getD (j + 1) (0, 0))) ((shareL c n r).getD j (0, 0))) := Lib.hid (by unfold splitV; rw [A.out, if_pos rfl, Int.toNat_natCast])
          have hfb := (betw_iff _ _ _).1 hfm
          have M := split_ok h0 hj hfb h8
          have BA := okv_bd M.cv M.a hj
          have BB := okv_bd M.cw M.b (k := j) (by rw [M.len]; omega)
          have BC := okv_bd M.cw M.b (k := j + 1) (by rw [M.len]; omega)
          have FA := share_form c n r hj
          have FB := share_form (two c j f) n r (k := j) (by rw [M.len]; omega)
          have FC := share_form (two c j f) n r (k := j + 1) (by rw [M.len]; omega)
          have hck := M.cv.holds _ (mem_getD hj)
          have hla : (shareL c n r).length = c.length := M.a.1
          have hlb : (shareL (two c j f) n r).length = c.length + 1 := by rw [M.b.1, M.len]
          have S1 := Lib.hid (fun v' W q => rshare_any v' (two c j f) n r W q M.cw M.n0 M.n2 ⟨M.r0, M.r1⟩)
          have S2 := Lib.hid (fun v' W q => rshare_any v' c n r W q M.cv M.n0 M.n1 ⟨M.r0, M.r1⟩)
          unfold GivesR at S1 S2
          have LEN := Lib.hid M.len
          obtain ⟨X1, hX1⟩ : ∃ X1, X1 = (c.take j).map (Value.int .i64) := ⟨_, rfl⟩
          obtain ⟨X2, hX2⟩ : ∃ X2, X2 = (c.drop (j + 1)).map (Value.int .i64) := ⟨_, rfl⟩
          have TWO := Lib.hid (show (two c j f).map (Value.int .i64) = X1 ++ .int .i64 f :: .int .i64 (c.getD j 0 - f) :: X2 by rw [hX1, hX2]; unfold two twoC; simp)
          have TX1 := Lib.hid (show ∀ (w : World), (∀ i, i < c.length → w.cell? ⟨b, off + i, none⟩ = some (.int .i64 (c.getD i 0))) → ∀ (i : Nat) (x : Value), X1[i]? = some x → w.cell? ⟨b, off + i, none⟩ = some x from fun w h i x hi => take_at h (by rw [← hX1]; exact hi))
          have TX2 := Lib.hid (show ∀ (w : World), (∀ i, i < c.length → w.cell? ⟨b, off + i, none⟩ = some (.int .i64 (c.getD i 0))) → ∀ (i : Nat) (x : Value), X2[i]? = some x → w.cell? ⟨b, off + (j + 1 + i), none⟩ = some x from fun w h i x hi => drop_at h (by rw [← hX2]; exact hi))
          have OX1 := Lib.hid (show ∀ v ∈ X1, v.oneCell' = true by rw [hX1]; exact mapval_one _)
          have OX2 := Lib.hid (show ∀ v ∈ X2, v.oneCell' = true by rw [hX2]; exact mapval_one _)
          have LX1 := Lib.hid (show X1.length = j by rw [hX1]; simp; omega)
          have LX2 := Lib.hid (show X2.length = c.length - (j + 1) by rw [hX2]; simp)
          clear hX1 hX2
          have h8n : ((c.length : Int) == 8) = false := beq_eq_false_iff_ne.2 (by omega)
          have h7 : c.length ≤ 7 := by omega
          have HCC := Lib.hid hcc
          clear h0 hcm M h8 hcc hv hcv hcp
          generalize hck' : c.getD j 0 = ck at *
          have FM := Lib.hid hfm
          clear hck' hfm
          generalize hxa : (shareL c n r).getD j (0, 0) = xa at *
          generalize hxb : (shareL (two c j f) n r).getD j (0, 0) = xb at *
          generalize hxc : (shareL (two c j f) n r).getD (j + 1) (0, 0) = xc at *
          have HXA := Lib.hid hxa
          have HXB := Lib.hid hxb
          have HXC := Lib.hid hxc
          clear hxa hxb hxc
          generalize shareL c n r = la at *
          generalize shareL (two c j f) n r = lb at *
          generalize two c j f = t at *
          obtain ⟨p1, hp1⟩ : ∃ p1, p1 = subR xa xb := ⟨_, rfl⟩
          obtain ⟨p2, hp2⟩ : ∃ p2, p2 = subR p1 xc := ⟨_, rfl⟩
          have EQ : red (-p2.1) p2.2 = subR (addR xb xc) xa := by
            rw [hp2, hp1, FA, FB, FC]
            exact split_two (frQ_pos _ _ _) (frQ_pos _ _ _)
          have B1 := subR_bd BA BB
          have B2 := subR_bd2 B1 BC
          rw [← hp1, ← hp2] at B2
          rw [← hp1] at B1
          have ba1 := BA.mul BB
          have ba2 := BB.mul BA
          rw [← EQ] at R
          clear FA FB FC EQ
          obtain ⟨P1, D1⟩ := p1
          obtain ⟨P2, D2⟩ := p2
          obtain ⟨p, d⟩ := xa
          obtain ⟨q, z⟩ := xb
          obtain ⟨s, u⟩ := xc
          obtain ⟨bc1, bc2, bc3, bc4⟩ := BC
          simp only at B1 B2 R ba1 ba2 bc1 bc2 bc3 bc4
          have m1 : -100000000000 * 10000 ≤ P1 * u ∧ P1 * u ≤ 100000000000 * 10000 := mul_bd (by omega) (by omega) (by omega)
          have m2 : 0 ≤ s * D1 ∧ s * D1 ≤ 10000000 * 100000000 := ⟨Int.mul_nonneg (by omega) (by omega), Int.mul_le_mul (by omega) (by omega) (by omega) (by omega)⟩
          have m3 : 1 ≤ D1 * u ∧ D1 * u ≤ 100000000 * 10000 := ⟨mul_one_le (by omega) (by omega), Int.mul_le_mul (by omega) (by omega) (by omega) (by omega)⟩
          have M1 := Lib.hid (fun W => rminus_any p d q z W (by omega) (by omega) (by omega))
          have M2 := Lib.hid (fun W => rminus_any P1 D1 s u W (by omega) (by omega) (by omega))
          have M3 := Lib.hid (fun W => rRatio_any (-P2) D2 W (by omega) (by omega) (by omega) (by omega))
          have V1 := Lib.hid (show ratV (p * z - q * d) (d * z) = .agg #[.int .i64 P1, .int .i64 D1] by
            have h : (P1, D1) = (rn (p * z - q * d) (d * z), rd (p * z - q * d) (d * z)) := hp1
            simp only [Prod.mk.injEq] at h
            rw [h.1, h.2]; rfl)
          have V2 := Lib.hid (show ratV (P1 * u - s * D1) (D1 * u) = .agg #[.int .i64 P2, .int .i64 D2] by
            have h : (P2, D2) = (rn (P1 * u - s * D1) (D1 * u), rd (P1 * u - s * D1) (D1 * u)) := hp2
            simp only [Prod.mk.injEq] at h
            rw [h.1, h.2]; rfl)
          have hneg : IntKind.i64.wrap (-P2) = -P2 := IntWalk.i64_in _ (by omega)
          have HNEG := Lib.hid hneg
          have hbw := Lib.hid (World.block_lt_of_cell? _ _ (HCC.out j hj))
          have hj0 : (0 : Int) ≤ (j : Int) + 1 := by omega
          have hja : (j : Int) < (la.length : Int) := by omega
          have hjb : (j : Int) < (lb.length : Int) := by omega
          have hjc : (j : Int) + 1 < (lb.length : Int) := by omega
          have hjn : ((j : Int) + 1).toNat = j + 1 := by omega
          have hla' : la.length ≤ c.length ∧ c.length ≤ la.length := by omega
          have hlb' : lb.length ≤ c.length + 1 ∧ c.length + 1 ≤ lb.length := by omega
          have hjk : (j : Int) ≤ (cap : Int) := by omega
          have hjk1 : (j : Int) + 1 ≤ (cap : Int) := by omega
          have hjk2 : (j : Int) + 1 ≤ (c.length : Int) := by omega
          obtain ⟨j0, hy00, hy0, hy1, hy2⟩ := info_parts Try.infoInt
          clear hp1 hp2 ba1 ba2 bc1 bc2 bc3 bc4 m1 m2 m3 B1 B2 BA BB hneg hal hla hlb
          go_enter Try.func51, Try.ntmps51
          go_wp2_with fail
          refine (rruled_any _ _ _ _ _ (HV.out.below HAL.out)).mono ?_
          rintro e w' ⟨rfl, rfl⟩
          rw [E0.out]
          go_wp2_with fail
          refine (within_any _ _ _ _).mono ?_
          rintro e w' ⟨rfl, rfl⟩
          rw [show betw 0 _ ((c.length : Int) - 1) = _ from CM.out]
          go_wp2_with fail
          refine (within_any _ _ _ _).mono ?_
          rintro e w' ⟨rfl, rfl⟩
          rw [FM.out]
          obtain ⟨w1, hw1⟩ : ∃ w1, w1 = w.alloc (.cells #[.int .i64 0, .int .i64 0] 23) := ⟨_, rfl⟩
          have HBR := Lib.hid (show Below (w.heap.size + 1) (w.alloc (.cells #[.int .i64 0, .int .i64 0] 23)) w1 by rw [hw1]; exact Below.refl _ _)
          have hs1 : w1.heap.size = w.heap.size + 1 := by rw [hw1]; simp
          have HS1 := Lib.hid hs1
          rw [← hw1] at HAL HCJ ⊢
          have HC1 := Lib.hid (fun i hi => keep_cell HAL.out (HCC.out i hi))
          clear hw1 hs1
          go_upto_region 9 with (at_builtin; refine wpList_append_own _ rfl _ _ 29 rfl w1.heap.size 3 j0 (.int .i64 0) 1 8 Try.underlying29 hy00 hy0 hy1 hy2 rfl (by decide) _ _ _ rfl (World.ownsRow_made w1 #[] 0 (Nat.le_refl _) (Nat.zero_le _) rfl) ⟨b, off, none⟩ j cap X1 rfl ?qc1 ?qc2 ?qc3 ?qc4 ?qc5 ?qc6 ?_)
          case qc1 => rw [LX1.out, Nat.mul_one]
          case qc2 =>
            intro i x hi
            rw [Addr.add_lit]
            refine Lib.cell?_alloc_some _ ?_
            exact TX1.out _ HC1.out i x hi
          case qc3 => exact OX1.out
          case qc4 => unfold maxLen; omega
          case qc5 => omega
          case qc6 => simp
          intro v2 w2 hown hgrow _
          have ho2 : w2.ownsRow w1.heap.size 3 1 v2 j X1 := by simpa using hown
          have hb2 : Below w1.heap.size w1 w2 := ((Below.refl _ w1).alloc (Nat.le_refl _) _).grown hgrow (by simp) (by intro k hk; simp [Value.ownBlock] at hk; omega)
          have HO2 := Lib.hid ho2
          have HB2 := Lib.hid hb2
          have c9 := keep_cell hb2 HCJ
          clear hown hgrow ho2 hb2 HCJ
          have e2 : IntKind.i64.wrap (ck - f) = ck - f := IntWalk.i64_in _ (by omega)
          go_upto_region 10 with (at_builtin; refine wpList_append_own _ rfl _ _ 29 rfl w1.heap.size 3 j0 (.int .i64 0) 1 8 Try.underlying29 hy00 hy0 hy1 hy2 rfl (by decide) _ _ _ rfl (HO2.out.alloc _) ⟨w2.heap.size, 0, none⟩ 2 2 [.int .i64 f, .int .i64 (ck - f)] rfl rfl (cell2_new _ _ _ _ rfl) ?rc3 ?rc4 ?rc5 ?rc6 ?_)
          case rc3 => exact two_vals _ _
          case rc4 => unfold maxLen; omega
          case rc5 => omega
          case rc6 => have h := HB2.out.size; simp; omega
          intro v3 w3 hown hgrow _
          have HO3 := Lib.hid hown
          have HB3 := Lib.hid (below_append HB2.out HB2.out.size HO2.out hgrow)
          clear hown hgrow c9 e2
          have e3 : IntKind.i64.wrap ((j : Int) + 1) = (j : Int) + 1 := IntWalk.i64_in _ (by omega)
          have HC3 := Lib.hid (fun i hi => keep_cell HB3.out (HC1.out i hi))
          have OK3 : Hid (∀ k, v3.ownBlock = some k → w1.heap.size ≤ k) := Lib.hid (fun k hk => by
            rcases HO3.out.2 with ⟨h1, _⟩ | ⟨g, cp, cur, h1, h2, _⟩
            · rw [h1] at hk; cases hk
            · rw [h1] at hk
              obtain rfl : g = k := by simpa [Value.ownBlock] using hk
              exact h2)
          by_cases hcj : cap = j + 1
          · have hln : c.length - (j + 1) = 0 := by omega
            have HLN := Lib.hid hln
            subst hcj
            clear hln
            go_upto_region 11 with (at_builtin; refine wpList_append_own _ rfl _ _ 29 rfl w1.heap.size 3 j0 (.int .i64 0) 1 8 Try.underlying29 hy00 hy0 hy1 hy2 rfl (by decide) _ _ _ rfl HO3.out (⟨b, off, none⟩) (0) (0) X2 rfl ?sc1 ?sc2 ?sc3 ?sc4 ?sc5 ?sc6 ?_)
            case sc1 => rw [LX2.out]; omega
            case sc3 => exact OX2.out
            case sc4 => unfold maxLen; omega
            case sc5 => omega
            case sc6 => exact HB3.out.size
            case sc2 =>
              intro i x hi
              have h1 := LX2.out
              rw [HLN.out] at h1
              rw [List.eq_nil_of_length_eq_zero h1] at hi
              simp at hi
            intro v4 w4 hown hgrow _
            have HB4 := Lib.hid (HB3.out.grown hgrow HB3.out.size OK3.out)
            have HI4 := Lib.hid (show IntsAt w4 v4 t by
              have h : w4.ownsRow w1.heap.size 3 1 v4 t.length (t.map (Value.int .i64)) := by
                rw [TWO.out, show t.length = j + 2 + (0) by have := LEN.out; omega]
                simpa using hown
              exact own_ints h (by have := LEN.out; omega))
            clear hown hgrow e3
            have HBQ := Lib.hid HB4.out
            go_wp2_with fail
            refine (S1.out _ _ HI4.out).mono ?_
            rintro e w5 ⟨v5, rfl, ho5, hb5⟩
            obtain ⟨b5, cap5, rfl, hbb5, hbl5⟩ := OwnR.split ho5 (by omega)
            have HB5 := Lib.hid (below_trans HB4.out hb5)
            have HV5 := Lib.hid ((HV.out.below HAL.out).below HB5.out)
            obtain ⟨y0, f0, _⟩ := OwnR.cells ho5 rfl (k := j) (by omega)
            obtain ⟨y1, f1, _⟩ := OwnR.cells ho5 rfl (k := j + 1) (by omega)
            rw [HXB.out] at y0 f0
            rw [HXC.out] at y1 f1
            simp only at y0 f0 y1 f1
            have Y1 := Lib.hid y1
            have F1 := Lib.hid f1
            have N2 := Lib.hid (fun W (h : KB w5 W) => S2.out _ W (HV5.out.below h))
            have z1 : ∀ W, KB w5 W → W.cell? ⟨b5, j * 2, none⟩ = some (.int .i64 q) := fun W h => keep_cell h y0
            have z2 : ∀ W, KB w5 W → W.cell? ⟨b5, j * 2 + 1, none⟩ = some (.int .i64 z) := fun W h => keep_cell h f0
            clear y0 f0 y1 f1 ho5 hb5 hbb5 hbl5
            go_upto_region 12 with fail
            go_cut [15] (fun s15 wx => ∃ g, s15 = .pointer (some ⟨g, 0, none⟩) ∧ w5.heap.size ≤ g ∧ wx.heap[g]? = some (.cells #[.int .i64 P1, .int .i64 D1] 23 (0, 0)) ∧ KB w5 wx)
            case first =>
              refine wp_region_held_drew (S := fun W => KB w5 W) (by kernel_rfl) (KB.drew (KB.refl _)) (fun hHeld => ?_)
              refine takeY (i := 0) rfl (by kernel_rfl) (by kernel_rfl) (by kernel_rfl) (fun _ _ _ _ h => h) (by rfl) hHeld ?_
              apply Exists.intro
              apply And.intro
              · intro W3 hS3
                go_simp
                try rfl
              try simp only [Act.put, List.getElem_toArray, List.getElem_cons_zero, List.getElem_cons_succ, List.setIfInBounds_toArray, List.set_cons_zero, List.set_cons_succ]
              refine takeY (i := 1) rfl (by kernel_rfl) (by kernel_rfl) (by kernel_rfl) (fun _ _ _ _ h => h) (by rfl) hHeld ?_
              apply Exists.intro
              apply And.intro
              · intro W3 hS3
                go_simp
                try rfl
              try simp only [Act.put, List.getElem_toArray, List.getElem_cons_zero, List.getElem_cons_succ, List.setIfInBounds_toArray, List.set_cons_zero, List.set_cons_succ]
              refine takeY (i := 2) rfl (by kernel_rfl) (by kernel_rfl) (by kernel_rfl) (fun _ _ _ _ h => h) (by rfl) hHeld ?_
              apply Exists.intro
              apply And.intro
              · intro W3 hS3
                go_simp
                try rfl
              try simp only [Act.put, List.getElem_toArray, List.getElem_cons_zero, List.getElem_cons_succ, List.setIfInBounds_toArray, List.set_cons_zero, List.set_cons_succ]
              refine takeY (i := 4) rfl (by kernel_rfl) (by kernel_rfl) (by kernel_rfl) (fun _ _ _ _ h => h) (by rfl) hHeld ?_
              apply Exists.intro
              apply And.intro
              · intro W3 hS3
                go_simp
                try rfl
              try simp only [Act.put, List.getElem_toArray, List.getElem_cons_zero, List.getElem_cons_succ, List.setIfInBounds_toArray, List.set_cons_zero, List.set_cons_succ]
              refine takeY (i := 7) rfl (by kernel_rfl) (by kernel_rfl) (by kernel_rfl) (fun _ _ _ _ h => h) (by rfl) hHeld ?_
              apply Exists.intro
              apply And.intro
              · intro W3 hS3
                go_simp
                try rfl
              try simp only [Act.put, List.getElem_toArray, List.getElem_cons_zero, List.getElem_cons_succ, List.setIfInBounds_toArray, List.set_cons_zero, List.set_cons_succ]
              refine takeY (i := 8) rfl (by kernel_rfl) (by kernel_rfl) (by kernel_rfl) (fun _ _ _ _ h => h) (by rfl) hHeld ?_
              apply Exists.intro
              apply And.intro
              · intro W3 hS3
                go_simp
                try rfl
              try simp only [Act.put, List.getElem_toArray, List.getElem_cons_zero, List.getElem_cons_succ, List.setIfInBounds_toArray, List.set_cons_zero, List.set_cons_succ]
              refine takeY (i := 9) rfl (by kernel_rfl) (by kernel_rfl) (by kernel_rfl) (fun _ _ _ _ h => h) (by rfl) hHeld ?_
              apply Exists.intro
              apply And.intro
              · intro W3 hS3
                go_simp
                try rfl
              try simp only [Act.put, List.getElem_toArray, List.getElem_cons_zero, List.getElem_cons_succ, List.setIfInBounds_toArray, List.set_cons_zero, List.set_cons_succ]
              refine takeY (i := 10) rfl (by kernel_rfl) (by kernel_rfl) (by kernel_rfl) (fun _ _ _ _ h => h) (by rfl) hHeld ?_
              apply Exists.intro
              apply And.intro
              · intro W3 hS3
                go_simp
                try rfl
              try simp only [Act.put, List.getElem_toArray, List.getElem_cons_zero, List.getElem_cons_succ, List.setIfInBounds_toArray, List.set_cons_zero, List.set_cons_succ]
              have kz1 : ∀ b o x y W, KC w5 b o x y W → W.cell? ⟨b5, j * 2, none⟩ = some (.int .i64 q) := fun b o x y W h => z1 W h.bel
              clear z1 z2
              refine wpAnyH_ready (rs := [3, 12]) (by kernel_rfl) (by simp) ?_
              refine AllReadyH.cons rfl (fun K hK => ?_) (AllReadyH.cons rfl (fun K hK => ?_) AllReadyH.nil)
              · go_simp
                refine ((N2.out _ hHeld).mono ?_)
                rintro e w6 ⟨v6, rfl, ho6, hb6⟩
                have hk6 := hHeld.call hb6
                obtain ⟨b6, cap6, rfl, hbb6, hbl6⟩ := OwnR.split ho6 (by omega)
                obtain ⟨x0, d0, _⟩ := OwnR.cells ho6 rfl (k := j) (by omega)
                rw [HXA.out] at x0 d0
                simp only at x0 d0
                go_wp2_with fail
                refine hK.out _ _ hk6 (fun _ => ?_)
                clear hK K
                try simp only [Act.put, List.getElem_toArray, List.getElem_cons_zero, List.getElem_cons_succ, List.setIfInBounds_toArray, List.set_cons_zero, List.set_cons_succ]
                refine anchor (S' := KC w5 b6 (j * 2) (.int .i64 p) (.int .i64 d)) (fun W h => h.bel) _ _ _ _ ?_
                have hHeld : KC w5 b6 (j * 2) (.int .i64 p) (.int .i64 d) w6 := ⟨hk6, x0, d0⟩
                have z3 : ∀ W, KC w5 b6 (j * 2) (.int .i64 p) (.int .i64 d) W → W.cell? ⟨b6, j * 2, none⟩ = some (.int .i64 p) := fun W h => h.c0
                have z4 : ∀ W, KC w5 b6 (j * 2) (.int .i64 p) (.int .i64 d) W → W.cell? ⟨b6, j * 2 + 1, none⟩ = some (.int .i64 d) := fun W h => h.c1
                clear x0 d0
                refine takeY (i := 5) rfl (by kernel_rfl) (by kernel_rfl) (by kernel_rfl) (fun _ _ _ _ h => h) (by rfl) hHeld ?_
                apply Exists.intro
                apply And.intro
                · intro W3 hS3
                  go_simp
                  try rfl
                try simp only [Act.put, List.getElem_toArray, List.getElem_cons_zero, List.getElem_cons_succ, List.setIfInBounds_toArray, List.set_cons_zero, List.set_cons_succ]
                refine takeY (i := 6) rfl (by kernel_rfl) (by kernel_rfl) (by kernel_rfl) (fun _ _ _ _ h => h) (by rfl) hHeld ?_
                apply Exists.intro
                apply And.intro
                · intro W3 hS3
                  go_simp
                  try rfl
                try simp only [Act.put, List.getElem_toArray, List.getElem_cons_zero, List.getElem_cons_succ, List.setIfInBounds_toArray, List.set_cons_zero, List.set_cons_succ]
                refine wpAnyH_ready (rs := [11, 12]) (by kernel_rfl) (by simp) ?_
                refine AllReadyH.cons rfl (fun K hK => ?_) (AllReadyH.cons rfl (fun K hK => ?_) AllReadyH.nil)
                · go_simp
                  refine (M1.out _).mono ?_
                  rintro e w7 ⟨rfl, hb7⟩
                  have hk7 := hHeld.call hb7
                  rw [V1.out]
                  go_wp2_with fail
                  refine hK.out _ _ hk7 (fun hHeld => ?_)
                  clear hK K
                  try simp only [Act.put, List.getElem_toArray, List.getElem_cons_zero, List.getElem_cons_succ, List.setIfInBounds_toArray, List.set_cons_zero, List.set_cons_succ]
                  refine wpAnyH_ready (rs := [12]) (by kernel_rfl) (by simp) ?_
                  refine AllReadyH.cons rfl (fun K hK => ?_) AllReadyH.nil
                  go_simp
                  refine hK.out _ _ (hHeld.alloc _) (fun hHeld => ?_)
                  clear hK K
                  try simp only [Act.put, List.getElem_toArray, List.getElem_cons_zero, List.getElem_cons_succ, List.setIfInBounds_toArray, List.set_cons_zero, List.set_cons_succ]
                  have hres := World.alloc_heap_new w7 (.cells #[.int .i64 0, .int .i64 0] 23)
                  generalize w7.alloc (.cells #[.int .i64 0, .int .i64 0] 23) = wa at *
                  have hga : w5.heap.size ≤ w7.heap.size := hk7.bel.size
                  have hnb : b6 ≠ w7.heap.size := by have := hb7.size; omega
                  refine wpAnyH_ready (rs := [13]) (by kernel_rfl) (by simp) ?_
                  refine AllReadyH.cons rfl (fun K hK => ?_) AllReadyH.nil
                  obtain ⟨⟨c0, c1⟩, f0, f1⟩ := two_facts hres
                  go_simp
                  refine hK.out _ _ (hHeld.store hga (hnb) _ _) (fun hHeld => ?_)
                  clear hK K c0 c1 f0 f1
                  try simp only [Act.put, List.getElem_toArray, List.getElem_cons_zero, List.getElem_cons_succ, List.setIfInBounds_toArray, List.set_cons_zero, List.set_cons_succ]
                  refine wpAnyH_done (by kernel_rfl) ?_ _
                  go_wp2_with fail
                  go_meet
                  exact ⟨w7.heap.size, rfl, hga, store_two hres _ _, hHeld.bel⟩
                · go_simp
                  refine hK.out _ _ (hHeld.alloc _) (fun hHeld => ?_)
                  clear hK K
                  try simp only [Act.put, List.getElem_toArray, List.getElem_cons_zero, List.getElem_cons_succ, List.setIfInBounds_toArray, List.set_cons_zero, List.set_cons_succ]
                  have hres := World.alloc_heap_new w6 (.cells #[.int .i64 0, .int .i64 0] 23)
                  generalize w6.alloc (.cells #[.int .i64 0, .int .i64 0] 23) = wa at *
                  have hga : w5.heap.size ≤ w6.heap.size := hk6.size
                  have hnb : b6 ≠ w6.heap.size := by omega
                  refine wpAnyH_ready (rs := [11]) (by kernel_rfl) (by simp) ?_
                  refine AllReadyH.cons rfl (fun K hK => ?_) AllReadyH.nil
                  go_simp
                  refine (M1.out _).mono ?_
                  rintro e w7 ⟨rfl, hb7⟩
                  have hk7 := hHeld.call hb7
                  rw [V1.out]
                  go_wp2_with fail
                  refine hK.out _ _ hk7 (fun hHeld => ?_)
                  clear hK K
                  try simp only [Act.put, List.getElem_toArray, List.getElem_cons_zero, List.getElem_cons_succ, List.setIfInBounds_toArray, List.set_cons_zero, List.set_cons_succ]
                  have hres7 := (hb7.block _ (Array.getElem?_eq_some_iff.1 hres).1).trans hres
                  refine wpAnyH_ready (rs := [13]) (by kernel_rfl) (by simp) ?_
                  refine AllReadyH.cons rfl (fun K hK => ?_) AllReadyH.nil
                  obtain ⟨⟨c0, c1⟩, f0, f1⟩ := two_facts hres7
                  go_simp
                  refine hK.out _ _ (hHeld.store hga (hnb) _ _) (fun hHeld => ?_)
                  clear hK K c0 c1 f0 f1
                  try simp only [Act.put, List.getElem_toArray, List.getElem_cons_zero, List.getElem_cons_succ, List.setIfInBounds_toArray, List.set_cons_zero, List.set_cons_succ]
                  refine wpAnyH_done (by kernel_rfl) ?_ _
                  go_wp2_with fail
                  go_meet
                  exact ⟨w6.heap.size, rfl, hga, store_two hres7 _ _, hHeld.bel⟩
              · go_simp
                have hal2 : KB w5 (w5.alloc (.cells #[.int .i64 0, .int .i64 0] 23)).drew := (KB.alloc (KB.refl w5) _).drew
                have hres : (w5.alloc (.cells #[.int .i64 0, .int .i64 0] 23)).drew.heap[w5.heap.size]? = some (.cells #[.int .i64 0, .int .i64 0] 23 (0, 0)) := World.alloc_heap_new w5 _
                refine hK.out _ _ hal2 (fun hHeld => ?_)
                clear hK K
                try simp only [Act.put, List.getElem_toArray, List.getElem_cons_zero, List.getElem_cons_succ, List.setIfInBounds_toArray, List.set_cons_zero, List.set_cons_succ]
                generalize (w5.alloc (.cells #[.int .i64 0, .int .i64 0] 23)).drew = wa at *
                have hlta := (Array.getElem?_eq_some_iff.1 hres).1
                refine wpAnyH_ready (rs := [3]) (by kernel_rfl) (by simp) ?_
                refine AllReadyH.cons rfl (fun K hK => ?_) AllReadyH.nil
                go_simp
                refine ((N2.out _ hHeld).mono ?_)
                rintro e w6 ⟨v6, rfl, ho6, hb6⟩
                have hk6 := hHeld.call hb6
                obtain ⟨b6, cap6, rfl, hbb6, hbl6⟩ := OwnR.split ho6 (by omega)
                obtain ⟨x0, d0, _⟩ := OwnR.cells ho6 rfl (k := j) (by omega)
                rw [HXA.out] at x0 d0
                simp only at x0 d0
                go_wp2_with fail
                refine hK.out _ _ hk6 (fun _ => ?_)
                clear hK K
                try simp only [Act.put, List.getElem_toArray, List.getElem_cons_zero, List.getElem_cons_succ, List.setIfInBounds_toArray, List.set_cons_zero, List.set_cons_succ]
                refine anchor (S' := KC w5 b6 (j * 2) (.int .i64 p) (.int .i64 d)) (fun W h => h.bel) _ _ _ _ ?_
                have hHeld : KC w5 b6 (j * 2) (.int .i64 p) (.int .i64 d) w6 := ⟨hk6, x0, d0⟩
                have z3 : ∀ W, KC w5 b6 (j * 2) (.int .i64 p) (.int .i64 d) W → W.cell? ⟨b6, j * 2, none⟩ = some (.int .i64 p) := fun W h => h.c0
                have z4 : ∀ W, KC w5 b6 (j * 2) (.int .i64 p) (.int .i64 d) W → W.cell? ⟨b6, j * 2 + 1, none⟩ = some (.int .i64 d) := fun W h => h.c1
                clear x0 d0
                refine takeY (i := 5) rfl (by kernel_rfl) (by kernel_rfl) (by kernel_rfl) (fun _ _ _ _ h => h) (by rfl) hHeld ?_
                apply Exists.intro
                apply And.intro
                · intro W3 hS3
                  go_simp
                  try rfl
                try simp only [Act.put, List.getElem_toArray, List.getElem_cons_zero, List.getElem_cons_succ, List.setIfInBounds_toArray, List.set_cons_zero, List.set_cons_succ]
                refine takeY (i := 6) rfl (by kernel_rfl) (by kernel_rfl) (by kernel_rfl) (fun _ _ _ _ h => h) (by rfl) hHeld ?_
                apply Exists.intro
                apply And.intro
                · intro W3 hS3
                  go_simp
                  try rfl
                try simp only [Act.put, List.getElem_toArray, List.getElem_cons_zero, List.getElem_cons_succ, List.setIfInBounds_toArray, List.set_cons_zero, List.set_cons_succ]
                refine wpAnyH_ready (rs := [11]) (by kernel_rfl) (by simp) ?_
                refine AllReadyH.cons rfl (fun K hK => ?_) AllReadyH.nil
                go_simp
                refine (M1.out _).mono ?_
                rintro e w7 ⟨rfl, hb7⟩
                have hk7 := hHeld.call hb7
                rw [V1.out]
                go_wp2_with fail
                refine hK.out _ _ hk7 (fun hHeld => ?_)
                clear hK K
                try simp only [Act.put, List.getElem_toArray, List.getElem_cons_zero, List.getElem_cons_succ, List.setIfInBounds_toArray, List.set_cons_zero, List.set_cons_succ]
                have hres7 := (hb7.block _ (Nat.lt_of_lt_of_le hlta hb6.size)).trans ((hb6.block _ hlta).trans hres)
                have hga : w5.heap.size ≤ w5.heap.size := Nat.le_refl _
                have hnb : b6 ≠ w5.heap.size := by omega
                refine wpAnyH_ready (rs := [13]) (by kernel_rfl) (by simp) ?_
                refine AllReadyH.cons rfl (fun K hK => ?_) AllReadyH.nil
                obtain ⟨⟨c0, c1⟩, f0, f1⟩ := two_facts hres7
                go_simp
                refine hK.out _ _ (hHeld.store hga (hnb) _ _) (fun hHeld => ?_)
                clear hK K c0 c1 f0 f1
                try simp only [Act.put, List.getElem_toArray, List.getElem_cons_zero, List.getElem_cons_succ, List.setIfInBounds_toArray, List.set_cons_zero, List.set_cons_succ]
                refine wpAnyH_done (by kernel_rfl) ?_ _
                go_wp2_with fail
                go_meet
                exact ⟨w5.heap.size, rfl, hga, store_two hres7 _ _, hHeld.bel⟩
            case rest =>
              obtain ⟨g, rfl, hg, hhg, hkb⟩ := hcut
              clear z1 z2
              obtain ⟨⟨t0, t1⟩, _, _⟩ := two_facts hhg
              have y1 := keep_cell hkb Y1.out
              have f1 := keep_cell hkb F1.out
              have HKB := Lib.hid hkb
              have HHG := Lib.hid hhg
              have HG := Lib.hid hg
              have e4 : IntKind.i64.wrap ((j : Int) + 1) = (j : Int) + 1 := IntWalk.i64_in _ (by omega)
              clear hkb hhg hg
              go_wp2
              go_still_tail 6, (by kernel_rfl)
              change wpList _ _ _ _ _ wc.drew
              go_wp2_with fail
              refine (M2.out _).mono ?_
              rintro e w9 ⟨rfl, hb9⟩
              rw [V2.out]
              have hg9 : w9.heap[g]? = some (.cells #[.int .i64 P1, .int .i64 D1] 23 (0, 0)) := (hb9.block g (Array.getElem?_eq_some_iff.1 HHG.out).1).trans HHG.out
              obtain ⟨⟨u0, u1⟩, v0', v1'⟩ := two_facts hg9
              have HB9 := Lib.hid (show Below w1.heap.size w1 w9 from HB5.out.trans ((HKB.out.drew.trans (hb9.mono HKB.out.size)).mono HB5.out.size))
              have HGE := Lib.hid (show w1.heap.size ≤ g from Nat.le_trans HB5.out.size HG.out)
              have HS9 := Lib.hid (show ((w9.setCell ⟨g, 0, none⟩ (.int .i64 P2)).setCell ⟨g, 1, none⟩ (.int .i64 D2)).heap[g]? = some (.cells #[.int .i64 P2, .int .i64 D2] 23 (0, 0)) from store_two hg9 _ _)
              have HB10 := Lib.hid ((HB9.out.setCell (p := ⟨g, 0, none⟩) HGE.out (.int .i64 P2)).setCell (p := ⟨g, 1, none⟩) HGE.out (.int .i64 D2))
              clear t0 t1 y1 f1 hb9 hg9 e4
              go_upto_region 14 with fail
              generalize (w9.setCell ⟨g, 0, none⟩ (.int .i64 P2)).setCell ⟨g, 1, none⟩ (.int .i64 D2) = w10 at *
              clear u0 u1 v0' v1'
              obtain ⟨⟨t0, t1⟩, _, _⟩ := two_facts HS9.out
              have hneg := HNEG.out
              go_wp2_with fail
              refine (M3.out _).mono ?_
              rintro e w11 ⟨rfl, hb11⟩
              have hbr : Below (w.heap.size + 1) (w.alloc (.cells #[.int .i64 0, .int .i64 0] 23)) w11 := HBR.out.trans ((below_trans HB10.out hb11).mono (by rw [HS1.out]; exact Nat.le_refl _))
              obtain ⟨⟨c0, c1⟩, f0, f1⟩ := res_cells hbr
              have hB := Lib.hid (res_below hbr (.int .i64 (rn (-P2) D2)) (.int .i64 (rd (-P2) D2)))
              clear t0 t1 hb11 hbr hneg
              unfold ratV
              go_wp2
              exact bodyPost_ret (v := tupR (rn (-P2) D2, rd (-P2) D2) 0) (by unfold tupR; simp [results, Try.results51, go_sem, c0, c1]) rfl ⟨by rw [R.out, A.out]; rfl, hB.out⟩
          · go_upto_region 11 with (at_builtin; refine wpList_append_own _ rfl _ _ 29 rfl w1.heap.size 3 j0 (.int .i64 0) 1 8 Try.underlying29 hy00 hy0 hy1 hy2 rfl (by decide) _ _ _ rfl HO3.out (⟨b, off + (j + 1), none⟩) (c.length - (j + 1)) (cap - (j + 1)) X2 rfl ?sc1 ?sc2 ?sc3 ?sc4 ?sc5 ?sc6 ?_)
            case sc1 => rw [LX2.out]; omega
            case sc3 => exact OX2.out
            case sc4 => unfold maxLen; omega
            case sc5 => omega
            case sc6 => exact HB3.out.size
            case sc2 =>
              intro i x hi
              rw [Addr.add_lit, Nat.add_assoc]
              exact TX2.out _ HC3.out i x hi
            intro v4 w4 hown hgrow _
            have HB4 := Lib.hid (HB3.out.grown hgrow HB3.out.size OK3.out)
            have HI4 := Lib.hid (show IntsAt w4 v4 t by
              have h : w4.ownsRow w1.heap.size 3 1 v4 t.length (t.map (Value.int .i64)) := by
                rw [TWO.out, show t.length = j + 2 + (c.length - (j + 1)) by have := LEN.out; omega]
                simpa using hown
              exact own_ints h (by have := LEN.out; omega))
            clear hown hgrow e3
            have HBQ := Lib.hid HB4.out
            go_wp2_with fail
            refine (S1.out _ _ HI4.out).mono ?_
            rintro e w5 ⟨v5, rfl, ho5, hb5⟩
            obtain ⟨b5, cap5, rfl, hbb5, hbl5⟩ := OwnR.split ho5 (by omega)
            have HB5 := Lib.hid (below_trans HB4.out hb5)
            have HV5 := Lib.hid ((HV.out.below HAL.out).below HB5.out)
            obtain ⟨y0, f0, _⟩ := OwnR.cells ho5 rfl (k := j) (by omega)
            obtain ⟨y1, f1, _⟩ := OwnR.cells ho5 rfl (k := j + 1) (by omega)
            rw [HXB.out] at y0 f0
            rw [HXC.out] at y1 f1
            simp only at y0 f0 y1 f1
            have Y1 := Lib.hid y1
            have F1 := Lib.hid f1
            have N2 := Lib.hid (fun W (h : KB w5 W) => S2.out _ W (HV5.out.below h))
            have z1 : ∀ W, KB w5 W → W.cell? ⟨b5, j * 2, none⟩ = some (.int .i64 q) := fun W h => keep_cell h y0
            have z2 : ∀ W, KB w5 W → W.cell? ⟨b5, j * 2 + 1, none⟩ = some (.int .i64 z) := fun W h => keep_cell h f0
            clear y0 f0 y1 f1 ho5 hb5 hbb5 hbl5
            go_upto_region 12 with fail
            go_cut [15] (fun s15 wx => ∃ g, s15 = .pointer (some ⟨g, 0, none⟩) ∧ w5.heap.size ≤ g ∧ wx.heap[g]? = some (.cells #[.int .i64 P1, .int .i64 D1] 23 (0, 0)) ∧ KB w5 wx)
            case first =>
              refine wp_region_held_drew (S := fun W => KB w5 W) (by kernel_rfl) (KB.drew (KB.refl _)) (fun hHeld => ?_)
              refine takeY (i := 0) rfl (by kernel_rfl) (by kernel_rfl) (by kernel_rfl) (fun _ _ _ _ h => h) (by rfl) hHeld ?_
              apply Exists.intro
              apply And.intro
              · intro W3 hS3
                go_simp
                try rfl
              try simp only [Act.put, List.getElem_toArray, List.getElem_cons_zero, List.getElem_cons_succ, List.setIfInBounds_toArray, List.set_cons_zero, List.set_cons_succ]
              refine takeY (i := 1) rfl (by kernel_rfl) (by kernel_rfl) (by kernel_rfl) (fun _ _ _ _ h => h) (by rfl) hHeld ?_
              apply Exists.intro
              apply And.intro
              · intro W3 hS3
                go_simp
                try rfl
              try simp only [Act.put, List.getElem_toArray, List.getElem_cons_zero, List.getElem_cons_succ, List.setIfInBounds_toArray, List.set_cons_zero, List.set_cons_succ]
              refine takeY (i := 2) rfl (by kernel_rfl) (by kernel_rfl) (by kernel_rfl) (fun _ _ _ _ h => h) (by rfl) hHeld ?_
              apply Exists.intro
              apply And.intro
              · intro W3 hS3
                go_simp
                try rfl
              try simp only [Act.put, List.getElem_toArray, List.getElem_cons_zero, List.getElem_cons_succ, List.setIfInBounds_toArray, List.set_cons_zero, List.set_cons_succ]
              refine takeY (i := 4) rfl (by kernel_rfl) (by kernel_rfl) (by kernel_rfl) (fun _ _ _ _ h => h) (by rfl) hHeld ?_
              apply Exists.intro
              apply And.intro
              · intro W3 hS3
                go_simp
                try rfl
              try simp only [Act.put, List.getElem_toArray, List.getElem_cons_zero, List.getElem_cons_succ, List.setIfInBounds_toArray, List.set_cons_zero, List.set_cons_succ]
              refine takeY (i := 7) rfl (by kernel_rfl) (by kernel_rfl) (by kernel_rfl) (fun _ _ _ _ h => h) (by rfl) hHeld ?_
              apply Exists.intro
              apply And.intro
              · intro W3 hS3
                go_simp
                try rfl
              try simp only [Act.put, List.getElem_toArray, List.getElem_cons_zero, List.getElem_cons_succ, List.setIfInBounds_toArray, List.set_cons_zero, List.set_cons_succ]
              refine takeY (i := 8) rfl (by kernel_rfl) (by kernel_rfl) (by kernel_rfl) (fun _ _ _ _ h => h) (by rfl) hHeld ?_
              apply Exists.intro
              apply And.intro
              · intro W3 hS3
                go_simp
                try rfl
              try simp only [Act.put, List.getElem_toArray, List.getElem_cons_zero, List.getElem_cons_succ, List.setIfInBounds_toArray, List.set_cons_zero, List.set_cons_succ]
              refine takeY (i := 9) rfl (by kernel_rfl) (by kernel_rfl) (by kernel_rfl) (fun _ _ _ _ h => h) (by rfl) hHeld ?_
              apply Exists.intro
              apply And.intro
              · intro W3 hS3
                go_simp
                try rfl
              try simp only [Act.put, List.getElem_toArray, List.getElem_cons_zero, List.getElem_cons_succ, List.setIfInBounds_toArray, List.set_cons_zero, List.set_cons_succ]
              refine takeY (i := 10) rfl (by kernel_rfl) (by kernel_rfl) (by kernel_rfl) (fun _ _ _ _ h => h) (by rfl) hHeld ?_
              apply Exists.intro
              apply And.intro
              · intro W3 hS3
                go_simp
                try rfl
              try simp only [Act.put, List.getElem_toArray, List.getElem_cons_zero, List.getElem_cons_succ, List.setIfInBounds_toArray, List.set_cons_zero, List.set_cons_succ]
              have kz1 : ∀ b o x y W, KC w5 b o x y W → W.cell? ⟨b5, j * 2, none⟩ = some (.int .i64 q) := fun b o x y W h => z1 W h.bel
              clear z1 z2
              refine wpAnyH_ready (rs := [3, 12]) (by kernel_rfl) (by simp) ?_
              refine AllReadyH.cons rfl (fun K hK => ?_) (AllReadyH.cons rfl (fun K hK => ?_) AllReadyH.nil)
              · go_simp
                refine ((N2.out _ hHeld).mono ?_)
                rintro e w6 ⟨v6, rfl, ho6, hb6⟩
                have hk6 := hHeld.call hb6
                obtain ⟨b6, cap6, rfl, hbb6, hbl6⟩ := OwnR.split ho6 (by omega)
                obtain ⟨x0, d0, _⟩ := OwnR.cells ho6 rfl (k := j) (by omega)
                rw [HXA.out] at x0 d0
                simp only at x0 d0
                go_wp2_with fail
                refine hK.out _ _ hk6 (fun _ => ?_)
                clear hK K
                try simp only [Act.put, List.getElem_toArray, List.getElem_cons_zero, List.getElem_cons_succ, List.setIfInBounds_toArray, List.set_cons_zero, List.set_cons_succ]
                refine anchor (S' := KC w5 b6 (j * 2) (.int .i64 p) (.int .i64 d)) (fun W h => h.bel) _ _ _ _ ?_
                have hHeld : KC w5 b6 (j * 2) (.int .i64 p) (.int .i64 d) w6 := ⟨hk6, x0, d0⟩
                have z3 : ∀ W, KC w5 b6 (j * 2) (.int .i64 p) (.int .i64 d) W → W.cell? ⟨b6, j * 2, none⟩ = some (.int .i64 p) := fun W h => h.c0
                have z4 : ∀ W, KC w5 b6 (j * 2) (.int .i64 p) (.int .i64 d) W → W.cell? ⟨b6, j * 2 + 1, none⟩ = some (.int .i64 d) := fun W h => h.c1
                clear x0 d0
                refine takeY (i := 5) rfl (by kernel_rfl) (by kernel_rfl) (by kernel_rfl) (fun _ _ _ _ h => h) (by rfl) hHeld ?_
                apply Exists.intro
                apply And.intro
                · intro W3 hS3
                  go_simp
                  try rfl
                try simp only [Act.put, List.getElem_toArray, List.getElem_cons_zero, List.getElem_cons_succ, List.setIfInBounds_toArray, List.set_cons_zero, List.set_cons_succ]
                refine takeY (i := 6) rfl (by kernel_rfl) (by kernel_rfl) (by kernel_rfl) (fun _ _ _ _ h => h) (by rfl) hHeld ?_
                apply Exists.intro
                apply And.intro
                · intro W3 hS3
                  go_simp
                  try rfl
                try simp only [Act.put, List.getElem_toArray, List.getElem_cons_zero, List.getElem_cons_succ, List.setIfInBounds_toArray, List.set_cons_zero, List.set_cons_succ]
                refine wpAnyH_ready (rs := [11, 12]) (by kernel_rfl) (by simp) ?_
                refine AllReadyH.cons rfl (fun K hK => ?_) (AllReadyH.cons rfl (fun K hK => ?_) AllReadyH.nil)
                · go_simp
                  refine (M1.out _).mono ?_
                  rintro e w7 ⟨rfl, hb7⟩
                  have hk7 := hHeld.call hb7
                  rw [V1.out]
                  go_wp2_with fail
                  refine hK.out _ _ hk7 (fun hHeld => ?_)
                  clear hK K
                  try simp only [Act.put, List.getElem_toArray, List.getElem_cons_zero, List.getElem_cons_succ, List.setIfInBounds_toArray, List.set_cons_zero, List.set_cons_succ]
                  refine wpAnyH_ready (rs := [12]) (by kernel_rfl) (by simp) ?_
                  refine AllReadyH.cons rfl (fun K hK => ?_) AllReadyH.nil
                  go_simp
                  refine hK.out _ _ (hHeld.alloc _) (fun hHeld => ?_)
                  clear hK K
                  try simp only [Act.put, List.getElem_toArray, List.getElem_cons_zero, List.getElem_cons_succ, List.setIfInBounds_toArray, List.set_cons_zero, List.set_cons_succ]
                  have hres := World.alloc_heap_new w7 (.cells #[.int .i64 0, .int .i64 0] 23)
                  generalize w7.alloc (.cells #[.int .i64 0, .int .i64 0] 23) = wa at *
                  have hga : w5.heap.size ≤ w7.heap.size := hk7.bel.size
                  have hnb : b6 ≠ w7.heap.size := by have := hb7.size; omega
                  refine wpAnyH_ready (rs := [13]) (by kernel_rfl) (by simp) ?_
                  refine AllReadyH.cons rfl (fun K hK => ?_) AllReadyH.nil
                  obtain ⟨⟨c0, c1⟩, f0, f1⟩ := two_facts hres
                  go_simp
                  refine hK.out _ _ (hHeld.store hga (hnb) _ _) (fun hHeld => ?_)
                  clear hK K c0 c1 f0 f1
                  try simp only [Act.put, List.getElem_toArray, List.getElem_cons_zero, List.getElem_cons_succ, List.setIfInBounds_toArray, List.set_cons_zero, List.set_cons_succ]
                  refine wpAnyH_done (by kernel_rfl) ?_ _
                  go_wp2_with fail
                  go_meet
                  exact ⟨w7.heap.size, rfl, hga, store_two hres _ _, hHeld.bel⟩
                · go_simp
                  refine hK.out _ _ (hHeld.alloc _) (fun hHeld => ?_)
                  clear hK K
                  try simp only [Act.put, List.getElem_toArray, List.getElem_cons_zero, List.getElem_cons_succ, List.setIfInBounds_toArray, List.set_cons_zero, List.set_cons_succ]
                  have hres := World.alloc_heap_new w6 (.cells #[.int .i64 0, .int .i64 0] 23)
                  generalize w6.alloc (.cells #[.int .i64 0, .int .i64 0] 23) = wa at *
                  have hga : w5.heap.size ≤ w6.heap.size := hk6.size
                  have hnb : b6 ≠ w6.heap.size := by omega
                  refine wpAnyH_ready (rs := [11]) (by kernel_rfl) (by simp) ?_
                  refine AllReadyH.cons rfl (fun K hK => ?_) AllReadyH.nil
                  go_simp
                  refine (M1.out _).mono ?_
                  rintro e w7 ⟨rfl, hb7⟩
                  have hk7 := hHeld.call hb7
                  rw [V1.out]
                  go_wp2_with fail
                  refine hK.out _ _ hk7 (fun hHeld => ?_)
                  clear hK K
                  try simp only [Act.put, List.getElem_toArray, List.getElem_cons_zero, List.getElem_cons_succ, List.setIfInBounds_toArray, List.set_cons_zero, List.set_cons_succ]
                  have hres7 := (hb7.block _ (Array.getElem?_eq_some_iff.1 hres).1).trans hres
                  refine wpAnyH_ready (rs := [13]) (by kernel_rfl) (by simp) ?_
                  refine AllReadyH.cons rfl (fun K hK => ?_) AllReadyH.nil
                  obtain ⟨⟨c0, c1⟩, f0, f1⟩ := two_facts hres7
                  go_simp
                  refine hK.out _ _ (hHeld.store hga (hnb) _ _) (fun hHeld => ?_)
                  clear hK K c0 c1 f0 f1
                  try simp only [Act.put, List.getElem_toArray, List.getElem_cons_zero, List.getElem_cons_succ, List.setIfInBounds_toArray, List.set_cons_zero, List.set_cons_succ]
                  refine wpAnyH_done (by kernel_rfl) ?_ _
                  go_wp2_with fail
                  go_meet
                  exact ⟨w6.heap.size, rfl, hga, store_two hres7 _ _, hHeld.bel⟩
              · go_simp
                have hal2 : KB w5 (w5.alloc (.cells #[.int .i64 0, .int .i64 0] 23)).drew := (KB.alloc (KB.refl w5) _).drew
                have hres : (w5.alloc (.cells #[.int .i64 0, .int .i64 0] 23)).drew.heap[w5.heap.size]? = some (.cells #[.int .i64 0, .int .i64 0] 23 (0, 0)) := World.alloc_heap_new w5 _
                refine hK.out _ _ hal2 (fun hHeld => ?_)
                clear hK K
                try simp only [Act.put, List.getElem_toArray, List.getElem_cons_zero, List.getElem_cons_succ, List.setIfInBounds_toArray, List.set_cons_zero, List.set_cons_succ]
                generalize (w5.alloc (.cells #[.int .i64 0, .int .i64 0] 23)).drew = wa at *
                have hlta := (Array.getElem?_eq_some_iff.1 hres).1
                refine wpAnyH_ready (rs := [3]) (by kernel_rfl) (by simp) ?_
                refine AllReadyH.cons rfl (fun K hK => ?_) AllReadyH.nil
                go_simp
                refine ((N2.out _ hHeld).mono ?_)
                rintro e w6 ⟨v6, rfl, ho6, hb6⟩
                have hk6 := hHeld.call hb6
                obtain ⟨b6, cap6, rfl, hbb6, hbl6⟩ := OwnR.split ho6 (by omega)
                obtain ⟨x0, d0, _⟩ := OwnR.cells ho6 rfl (k := j) (by omega)
                rw [HXA.out] at x0 d0
                simp only at x0 d0
                go_wp2_with fail
                refine hK.out _ _ hk6 (fun _ => ?_)
                clear hK K
                try simp only [Act.put, List.getElem_toArray, List.getElem_cons_zero, List.getElem_cons_succ, List.setIfInBounds_toArray, List.set_cons_zero, List.set_cons_succ]
                refine anchor (S' := KC w5 b6 (j * 2) (.int .i64 p) (.int .i64 d)) (fun W h => h.bel) _ _ _ _ ?_
                have hHeld : KC w5 b6 (j * 2) (.int .i64 p) (.int .i64 d) w6 := ⟨hk6, x0, d0⟩
                have z3 : ∀ W, KC w5 b6 (j * 2) (.int .i64 p) (.int .i64 d) W → W.cell? ⟨b6, j * 2, none⟩ = some (.int .i64 p) := fun W h => h.c0
                have z4 : ∀ W, KC w5 b6 (j * 2) (.int .i64 p) (.int .i64 d) W → W.cell? ⟨b6, j * 2 + 1, none⟩ = some (.int .i64 d) := fun W h => h.c1
                clear x0 d0
                refine takeY (i := 5) rfl (by kernel_rfl) (by kernel_rfl) (by kernel_rfl) (fun _ _ _ _ h => h) (by rfl) hHeld ?_
                apply Exists.intro
                apply And.intro
                · intro W3 hS3
                  go_simp
                  try rfl
                try simp only [Act.put, List.getElem_toArray, List.getElem_cons_zero, List.getElem_cons_succ, List.setIfInBounds_toArray, List.set_cons_zero, List.set_cons_succ]
                refine takeY (i := 6) rfl (by kernel_rfl) (by kernel_rfl) (by kernel_rfl) (fun _ _ _ _ h => h) (by rfl) hHeld ?_
                apply Exists.intro
                apply And.intro
                · intro W3 hS3
                  go_simp
                  try rfl
                try simp only [Act.put, List.getElem_toArray, List.getElem_cons_zero, List.getElem_cons_succ, List.setIfInBounds_toArray, List.set_cons_zero, List.set_cons_succ]
                refine wpAnyH_ready (rs := [11]) (by kernel_rfl) (by simp) ?_
                refine AllReadyH.cons rfl (fun K hK => ?_) AllReadyH.nil
                go_simp
                refine (M1.out _).mono ?_
                rintro e w7 ⟨rfl, hb7⟩
                have hk7 := hHeld.call hb7
                rw [V1.out]
                go_wp2_with fail
                refine hK.out _ _ hk7 (fun hHeld => ?_)
                clear hK K
                try simp only [Act.put, List.getElem_toArray, List.getElem_cons_zero, List.getElem_cons_succ, List.setIfInBounds_toArray, List.set_cons_zero, List.set_cons_succ]
                have hres7 := (hb7.block _ (Nat.lt_of_lt_of_le hlta hb6.size)).trans ((hb6.block _ hlta).trans hres)
                have hga : w5.heap.size ≤ w5.heap.size := Nat.le_refl _
                have hnb : b6 ≠ w5.heap.size := by omega
                refine wpAnyH_ready (rs := [13]) (by kernel_rfl) (by simp) ?_
                refine AllReadyH.cons rfl (fun K hK => ?_) AllReadyH.nil
                obtain ⟨⟨c0, c1⟩, f0, f1⟩ := two_facts hres7
                go_simp
                refine hK.out _ _ (hHeld.store hga (hnb) _ _) (fun hHeld => ?_)
                clear hK K c0 c1 f0 f1
                try simp only [Act.put, List.getElem_toArray, List.getElem_cons_zero, List.getElem_cons_succ, List.setIfInBounds_toArray, List.set_cons_zero, List.set_cons_succ]
                refine wpAnyH_done (by kernel_rfl) ?_ _
                go_wp2_with fail
                go_meet
                exact ⟨w5.heap.size, rfl, hga, store_two hres7 _ _, hHeld.bel⟩
            case rest =>
              obtain ⟨g, rfl, hg, hhg, hkb⟩ := hcut
              clear z1 z2
              obtain ⟨⟨t0, t1⟩, _, _⟩ := two_facts hhg
              have y1 := keep_cell hkb Y1.out
              have f1 := keep_cell hkb F1.out
              have HKB := Lib.hid hkb
              have HHG := Lib.hid hhg
              have HG := Lib.hid hg
              have e4 : IntKind.i64.wrap ((j : Int) + 1) = (j : Int) + 1 := IntWalk.i64_in _ (by omega)
              clear hkb hhg hg
              go_wp2
              go_still_tail 6, (by kernel_rfl)
              change wpList _ _ _ _ _ wc.drew
              go_wp2_with fail
              refine (M2.out _).mono ?_
              rintro e w9 ⟨rfl, hb9⟩
              rw [V2.out]
              have hg9 : w9.heap[g]? = some (.cells #[.int .i64 P1, .int .i64 D1] 23 (0, 0)) := (hb9.block g (Array.getElem?_eq_some_iff.1 HHG.out).1).trans HHG.out
              obtain ⟨⟨u0, u1⟩, v0', v1'⟩ := two_facts hg9
              have HB9 := Lib.hid (show Below w1.heap.size w1 w9 from HB5.out.trans ((HKB.out.drew.trans (hb9.mono HKB.out.size)).mono HB5.out.size))
              have HGE := Lib.hid (show w1.heap.size ≤ g from Nat.le_trans HB5.out.size HG.out)
              have HS9 := Lib.hid (show ((w9.setCell ⟨g, 0, none⟩ (.int .i64 P2)).setCell ⟨g, 1, none⟩ (.int .i64 D2)).heap[g]? = some (.cells #[.int .i64 P2, .int .i64 D2] 23 (0, 0)) from store_two hg9 _ _)
              have HB10 := Lib.hid ((HB9.out.setCell (p := ⟨g, 0, none⟩) HGE.out (.int .i64 P2)).setCell (p := ⟨g, 1, none⟩) HGE.out (.int .i64 D2))
              clear t0 t1 y1 f1 hb9 hg9 e4
              go_upto_region 14 with fail
              generalize (w9.setCell ⟨g, 0, none⟩ (.int .i64 P2)).setCell ⟨g, 1, none⟩ (.int .i64 D2) = w10 at *
              clear u0 u1 v0' v1'
              obtain ⟨⟨t0, t1⟩, _, _⟩ := two_facts HS9.out
              have hneg := HNEG.out
              go_wp2_with fail
              refine (M3.out _).mono ?_
              rintro e w11 ⟨rfl, hb11⟩
              have hbr : Below (w.heap.size + 1) (w.alloc (.cells #[.int .i64 0, .int .i64 0] 23)) w11 := HBR.out.trans ((below_trans HB10.out hb11).mono (by rw [HS1.out]; exact Nat.le_refl _))
              obtain ⟨⟨c0, c1⟩, f0, f1⟩ := res_cells hbr
              have hB := Lib.hid (res_below hbr (.int .i64 (rn (-P2) D2)) (.int .i64 (rd (-P2) D2)))
              clear t0 t1 hb11 hbr hneg
              unfold ratV
              go_wp2
              exact bodyPost_ret (v := tupR (rn (-P2) D2, rd (-P2) D2) 0) (by unfold tupR; simp [results, Try.results51, go_sem, c0, c1]) rfl ⟨by rw [R.out, A.out]; rfl, hB.out⟩
  · have A : Hid (splitE c n r k f = shareE c n r) := Lib.hid (by unfold splitE; rw [if_neg h0])
    have R : Hid (splitV c n r k f = (0, 0)) := Lib.hid (by unfold splitV; rw [A.out, if_neg h0])
    have hb : (shareE c n r != 0) = true := bne_iff_ne.2 h0
    have hb2 : (shareE c n r == 0) = false := beq_eq_false_iff_ne.2 h0
    clear h0 hv hal hcp
    go_enter Try.func51, Try.ntmps51
    go_wp2_with fail
    refine (rruled_any _ _ _ _ _ (HV.out.below HAL.out)).mono ?_
    rintro e w' ⟨rfl, rfl⟩
    generalize shareE c n r = se at *
    go_wp2
    refine bodyPost_ret (v := tupR (0, 0) (se)) (by unfold tupR; simp [results, Try.results51, go_sem]) rfl ⟨by rw [R.out, A.out], ?_⟩
    repeat (first | exact Below.refl _ _ | refine Below.setCell ?_ (by simp) _ | refine Below.alloc ?_ (by simp) _)

end Go.Proofs.Ytaakefjblldccaa
