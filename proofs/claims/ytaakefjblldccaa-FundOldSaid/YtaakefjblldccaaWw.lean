/- Contract: awards in whole numbers (the program): the walk. -/
import Derived.Test.YtaakefjblldccaaWo
namespace Go.Proofs.Ytaakefjblldccaa
open Go.RowKit

def mixL {α : Type} (A B : List α) (k : Nat) : List α := A.take k ++ B.drop k
theorem mix_zero {α : Type} (A B : List α) : mixL A B 0 = B := by simp [mixL]
theorem mix_end {α : Type} {A B : List α} {n : Nat} (hA : A.length = n) (hB : B.length = n) : mixL A B n = A := by
  unfold mixL
  rw [List.take_of_length_le (by omega), List.drop_eq_nil_of_le (by omega), List.append_nil]
theorem mix_at {α : Type} {A B : List α} {n k : Nat} (hA : A.length = n) (hk : k ≤ n) (d : α) : (mixL A B k).getD k d = B.getD k d := by
  unfold mixL
  rw [List.getD_eq_getElem?_getD, List.getElem?_append_right (by rw [List.length_take]; omega)]
  simp [List.getD_eq_getElem?_getD, show min k A.length = k by omega]
theorem mix_set {α : Type} {A B : List α} {n k : Nat} (hA : A.length = n) (hB : B.length = n) (hk : k < n) (d : α) : (mixL A B k).set k (A.getD k d) = mixL A B (k + 1) := by
  unfold mixL
  have e : (A.take k).length = k := by rw [List.length_take]; omega
  rw [List.drop_eq_getElem_cons (show k < B.length by omega), List.set_append_right _ _ (by omega), e, Nat.sub_self, List.set_cons_zero, List.take_succ_eq_append_getElem (show k < A.length by omega), List.append_assoc]
  simp [List.getD_eq_getElem?_getD, show k < A.length by omega]

theorem box2_new {W : World} {s : Nat} (hs : W.heap.size = s) (x y : Value) (T : TypeId) : (W.alloc (.cells #[x, y] T)).cell? ⟨s, 0, none⟩ = some x ∧ (W.alloc (.cells #[x, y] T)).cell? ⟨s, 1, none⟩ = some y := by
  subst hs
  exact ⟨by simp, by simp⟩

theorem incL_bd : ∀ (L : List Nat) (q : List Int) (B : Int), (∀ i, 0 ≤ q.getD i 0 ∧ q.getD i 0 ≤ B) → ∀ x, 0 ≤ (incL q L).getD x 0 ∧ (incL q L).getD x 0 ≤ B + L.length
  | [], q, B, h, x => by simpa [incL] using h x
  | i :: L, q, B, h, x => by
    have ih := incL_bd L (q.set i (q.getD i 0 + 1)) (B + 1) (fun j => by
      have h1 := h i
      have h2 := h j
      by_cases hj : j = i
      · subst hj
        by_cases hl : j < q.length
        · rw [show (q.set j (q.getD j 0 + 1)).getD j 0 = q.getD j 0 + 1 by simp [List.getD_eq_getElem?_getD, hl]]
          omega
        · rw [List.set_eq_of_length_le (by omega)]
          omega
      · rw [show (q.set i (q.getD i 0 + 1)).getD j 0 = q.getD j 0 by simp [List.getD_eq_getElem?_getD, List.getElem?_set, Ne.symm hj]]
        omega) x
    have e : incL q (i :: L) = incL (q.set i (q.getD i 0 + 1)) L := rfl
    rw [e]
    have hl : ((i :: L).length : Int) = (L.length : Int) + 1 := by simp
    omega

/-- What is left over at the claims. -/
def gL (c : List Int) (n r : Int) : List Int := c.map fun x => frF c n r x % frQ c n r
theorem whl_share {c : List Int} {n r : Int} (h : shareE c n r = 0) : Whl n (shareL c n r) (gL c n r) (frQ c n r) := by
  obtain ⟨ha, hr⟩ := shareE_ok h
  obtain ⟨hc, h1, h2⟩ := askE_ok2 ha
  exact whl_of hc (hc.shr2 h1 h2 hr) h1

def whN (n : Int) (l : List Rat2) : Nat := (n - tot (qsL l)).toNat
/-- What Whole gives. -/
def GivesH (c : List Int) (n r : Int) (w : World) (e : Ending) (w' : World) : Prop :=
  ∃ ov res, e = .returned (.tuple #[ov, .int .i64 (shareE c n r)]) ∧ IntsAt w' ov res ∧ Below w.heap.size w w' ∧ (shareE c n r ≠ 0 → res = []) ∧
    (shareE c n r = 0 → ∃ L, Orde (gL c n r) L ∧ res = incL (qsL (shareL c n r)) (L.take (whN n (shareL c n r))))

theorem zeros_vals (N : Nat) : (madeCells (Value.int .i64 0).cells (N * 1)).toList = (List.replicate N (0 : Int)).map (Value.int .i64) := by
  unfold madeCells
  apply List.ext_getElem
  · simp
  · intro i h1 h2
    simp [Value.cells, Nat.mod_one]

set_option maxRecDepth 100000 in
set_option maxHeartbeats 8000000 in
theorem tWhole_any (v : Value) (c : List Int) (n r : Int) (w : World) (hv : IntsAt w v c) :
    Calls Try.prog 28 #[v, .int .i64 n, .int .i64 r] w (GivesH c n r w) := by
  have SH := Lib.hid (shared_any v c n r w hv)
  unfold GivesS at SH
  have hl := shareV_len c n r
  clear hv
  by_cases h0 : shareE c n r = 0
  · have K := shOk h0
    have WH := Lib.hid (whl_share h0)
    have E0 := Lib.hid h0
    rw [K.val] at SH hl
    have hpos := K.pos
    have hhi := K.hi
    rw [h0] at SH
    clear h0 K
    have GD : Hid (∀ e w', (∃ ov L, e = Ending.returned (.tuple #[ov, .int .i64 0]) ∧ Orde (gL c n r) L ∧ IntsAt w' ov (incL (qsL (shareL c n r)) (L.take (whN n (shareL c n r)))) ∧ Below w.heap.size w w') → GivesH c n r w e w') := Lib.hid (fun e w' ⟨ov, L, h1, h2, h3, h4⟩ =>
      ⟨ov, _, by rw [E0.out]; exact h1, h3, h4, fun h => absurd E0.out h, fun _ => ⟨L, h2, rfl⟩⟩)
    refine Calls.mono ?_ GD.out
    clear GD E0
    generalize hG : gL c n r = G at *
    generalize frQ c n r = Q at *
    clear hG
    generalize hll : shareL c n r = l at *
    clear hll
    obtain ⟨N, hN⟩ : ∃ N, N = l.length := ⟨_, rfl⟩
    have HN := Lib.hid hN
    obtain ⟨j0, hj0, hy0, hy1, hy2⟩ := info_parts Try.infoInt
    go_enter Try.func28, Try.ntmps28
    go_wp2_with fail
    refine SH.out.mono ?_
    rintro e w1 ⟨v1, rfl, ho1, hb1⟩
    obtain ⟨b, cap, rfl, hbb, hbl⟩ := ho1.split hpos
    have hrow := ho1.row
    rw [← hN] at hrow ⊢
    have hpN : 0 < N := by omega
    have hN8 : N ≤ 8 := by omega
    have HROW := Lib.hid hrow
    have HB1 := Lib.hid hb1
    clear ho1 hb1 hl SH hrow hpos hhi hN
    obtain ⟨w2, hw2⟩ : ∃ w2, w2 = w1.alloc (.cells #[.slice (some ⟨b, 0, none⟩) N cap] 30) := ⟨_, rfl⟩
    have HW2 := Lib.hid hw2
    have hb2 : Below w1.heap.size w1 w2 := by rw [hw2]; exact (Below.refl _ w1).alloc (Nat.le_refl _) _
    have HB2 := Lib.hid (HB1.out.trans (hb2.mono HB1.out.size))
    have hbx2 : w2.heap[w1.heap.size]? = some (.cells #[.slice (some ⟨b, 0, none⟩) N cap] 30 (0, 0)) := by rw [hw2]; exact World.alloc_heap_new w1 _
    have HX2 := Lib.hid hbx2
    have HR2 := Lib.hid (row_keep HROW.out (hb2.block _ hbl))
    clear hw2 hb2 hbx2
    go_upto_region 4 with fail
    rw [← HW2.out]
    have c8 : w2.cell? ⟨w1.heap.size, 0, none⟩ = some (.slice (some ⟨b, 0, none⟩) N cap) := by have h := HX2.out; simp [World.cell?, h]
    go_upto_region 5 with (at_make; refine wpList_make_full _ rfl _ _ 29 rfl w.heap.size 3 j0 (.int .i64 0) 1 Try.underlying29 hj0 hy0 hy1 .i64 .i64 _ _ N rfl rfl rfl rfl (by rw [hy2]; omega) (by unfold maxLen; omega) HB2.out.size ?_; intro w3 hown3 hgrow3)
    have hb3 : Below w2.heap.size w2 w3 := (Below.refl _ _).grown hgrow3 (Nat.le_refl _) (fun k e => by cases e)
    have HB3 := Lib.hid (HB2.out.trans (hb3.mono HB2.out.size))
    rw [zeros_vals] at hown3
    have HO3 := Lib.hid hown3
    have c83 := keep_cell hb3 c8
    have hbz : w1.heap.size < w2.heap.size := (Array.getElem?_eq_some_iff.1 HX2.out).1
    have HX3 := Lib.hid ((hb3.block _ hbz).trans HX2.out)
    have HR3 := Lib.hid (row_keep HR2.out (hb3.block _ (Nat.lt_trans hbl hbz)))
    clear hown3 hgrow3 hb3 c8
    go_upto_region 6 with (at_make; refine wpList_make_full _ rfl _ _ 29 rfl w.heap.size 3 j0 (.int .i64 0) 1 Try.underlying29 hj0 hy0 hy1 .i64 .i64 _ _ N rfl rfl rfl rfl (by rw [hy2]; omega) (by unfold maxLen; omega) HB3.out.size ?_; intro w4 hown4 hgrow4)
    have hb4 : Below w3.heap.size w3 w4 := (Below.refl _ _).grown hgrow4 (Nat.le_refl _) (fun k e => by cases e)
    have HB4 := Lib.hid (HB3.out.trans (hb4.mono HB3.out.size))
    rw [zeros_vals] at hown4
    have hs3 : w2.heap.size < w3.heap.size := by
      obtain ⟨_, _, h⟩ := row_block HO3.out
      exact (Array.getElem?_eq_some_iff.1 h).1
    have W4 : WS w.heap.size w1.heap.size b cap w2.heap.size w3.heap.size N l (List.replicate N 0) (List.replicate N 0) w4 :=
      ⟨(hb4.block _ (Nat.lt_trans hbz hs3)).trans HX3.out, row_keep HR3.out (hb4.block _ (Nat.lt_trans (Nat.lt_trans hbl hbz) hs3)), row_keep HO3.out (hb4.block _ hs3), hown4, by omega, HN.out.symm, by simp, by simp⟩
    have HW4 := Lib.hid W4
    have c84 := keep_cell hb4 c83
    have hne8 : ¬ w3.heap.size = w2.heap.size := by omega
    obtain ⟨B8, hB8⟩ : ∃ B8, B8 = w1.heap.size := ⟨_, rfl⟩
    obtain ⟨go, hgo⟩ : ∃ go, go = w2.heap.size := ⟨_, rfl⟩
    obtain ⟨gr, hgr⟩ : ∃ gr, gr = w3.heap.size := ⟨_, rfl⟩
    rw [← hB8, ← hgo, ← hgr] at HW4 ⊢
    rw [← hB8] at c84
    clear hown4 hgrow4 hb4 W4 HX3 HR3 HO3 c83 HB3 HX2 HR2 HB2 HW2 HROW hbz hs3 hbl hbb hne8 hB8 hgo hgr
    go_wp2
    go_loopw [34] (fun iv wr => ∃ k : Nat, k ≤ N ∧ iv = .int .i64 k ∧ WS w.heap.size B8 b cap go gr N (mixL (frL l) l k) (mixL (qsL l) (List.replicate N 0) k) (mixL (asI (List.range N)) (List.replicate N 0) k) wr ∧ Below w.heap.size w wr) (fun iv _ => N - (intOf iv).toNat)
    case atStart => exact ⟨0, Nat.zero_le _, rfl, by rw [mix_zero, mix_zero, mix_zero]; exact HW4.out, HB4.out⟩
    case round =>
      clear c84 HW4 HB4
      obtain ⟨k, hk, rfl, hW, hbel⟩ := hrel
      by_cases hlt : k < N
      · have hlt' : (k : Int) < (N : Int) := by omega
        obtain ⟨b8, x0, d0, o0, q0, fR, fo, fq⟩ := hW.facts hlt
        have lF : (frL l).length = N := by simp [frL, HN.out]
        have lQ : (qsL l).length = N := by simp [qsL, HN.out]
        have lI : (asI (List.range N)).length = N := by simp [asI]
        rw [mix_at lF hk] at x0 d0
        have hx := WH.out.pos k (by rw [← HN.out]; exact hlt)
        have EQ := Lib.hid (show (qsL l).getD k 0 = (l.getD k (0, 0)).1 / (l.getD k (0, 0)).2 by simp [qsL, List.getD_eq_getElem?_getD, show k < l.length by rw [← HN.out]; exact hlt])
        have EF := Lib.hid (show (frL l).getD k (0, 0) = ((l.getD k (0, 0)).1 % (l.getD k (0, 0)).2, (l.getD k (0, 0)).2) by simp [frL, List.getD_eq_getElem?_getD, show k < l.length by rw [← HN.out]; exact hlt])
        have EI := Lib.hid (show (asI (List.range N)).getD k 0 = (k : Int) by simp [asI, List.getD_eq_getElem?_getD, hlt])
        have ED := Lib.hid (show ((mixL (frL l) l k).getD k (0, 0)).2 = (l.getD k (0, 0)).2 by rw [mix_at lF hk])
        have MS := Lib.hid (And.intro (mix_set (A := frL l) (B := l) lF HN.out.symm hlt (0, 0)) (And.intro (mix_set (A := qsL l) (B := List.replicate N 0) lQ (by simp) hlt 0) (mix_set (A := asI (List.range N)) (B := List.replicate N 0) lI (by simp) hlt 0)))
        have HW := Lib.hid hW
        have HBL := Lib.hid hbel
        generalize hxd : l.getD k (0, 0) = xd at *
        obtain ⟨p, d⟩ := xd
        have EX := Lib.hid hxd
        clear hxd
        simp only at x0 d0 hx EQ EF ED
        have hp0 : 0 ≤ p := hx.1
        have hd1 : ¬ d = 0 := by omega
        have hd2 : ¬ d = -1 := by omega
        clear hW hbel lF lQ lI
        generalize (mixL (qsL l) (List.replicate N 0) k).getD k 0 = y1 at *
        generalize (mixL (asI (List.range N)) (List.replicate N 0) k).getD k 0 = y2 at *
        have hn1 : ¬ go = gr := HW.out.ne
        have hn2 : ¬ gr = go := Ne.symm HW.out.ne
        have hlw := HW.out.lt
        have z1 : go < wr.heap.size := hlw.2.2.1
        have z2 : gr < wr.heap.size := hlw.2.2.2.1
        have hal : Below wr.heap.size wr (wr.alloc (.cells #[.int .i64 p, .int .i64 d] 23)) := (Below.refl _ wr).alloc (Nat.le_refl _) _
        have o1 := keep_cell hal o0
        have q1 := keep_cell hal q0
        have fo1 := (hal.frozen (p := ⟨go, k, none⟩) z1).trans fo
        have fq1 := (hal.frozen (p := ⟨gr, k, none⟩) z2).trans fq
        have HAL := Lib.hid hal
        clear hlw hal
        go_upto_region 10 with fail
        obtain ⟨w5, hw5⟩ : ∃ w5, w5 = ((wr.setCell ⟨go, k, none⟩ (.int .i64 (p / d))).setCell ⟨gr, k, none⟩ (.int .i64 k)).alloc (.cells #[.int .i64 p, .int .i64 d] 23) := ⟨_, rfl⟩
        rw [← hw5]
        have W5 : WS w.heap.size B8 b cap go gr N (mixL (frL l) l k) ((mixL (qsL l) (List.replicate N 0) k).set k (p / d)) ((mixL (asI (List.range N)) (List.replicate N 0) k).set k k) w5 := by
          rw [hw5]
          exact ((HW.out.setOut k (p / d)).setOrd k k).below ((Below.refl _ _).alloc (Nat.le_refl _) _)
        have HW5 := Lib.hid W5
        have HB5 := Lib.hid (show Below w.heap.size w w5 by
          rw [hw5]
          have h := (HBL.out.setCell (p := ⟨go, k, none⟩) HW.out.lt.2.2.2.2.2.1 (.int .i64 (p / d))).setCell (p := ⟨gr, k, none⟩) HW.out.lt.2.2.2.2.2.2 (.int .i64 k)
          exact h.alloc h.size _)
        have t01 := box2_new (W := (wr.setCell ⟨go, k, none⟩ (.int .i64 (p / d))).setCell ⟨gr, k, none⟩ (.int .i64 k)) (s := wr.heap.size) (by simp) (.int .i64 p) (.int .i64 d) 23
        rw [← hw5] at t01
        obtain ⟨t0, t1⟩ := t01
        clear hw5 W5 b8 x0 d0 o0 q0 fR fo fq o1 q1 fo1 fq1 z1 z2
        obtain ⟨b8, x0, d0, _, _, fR, _, _⟩ := HW5.out.facts hlt
        have EV := Lib.hid (mix_at (A := frL l) (B := l) (n := N) (by simp [frL, HN.out]) hk (0, 0))
        rw [EV.out] at x0 d0
        rw [EX.out] at x0 d0
        simp only at x0 d0
        generalize hs5 : wr.heap.size = s5 at *
        clear hs5
        go_region
        have HW6 := Lib.hid (show WS w.heap.size B8 b cap go gr N (mixL (frL l) l (k + 1)) (mixL (qsL l) (List.replicate N 0) (k + 1)) (mixL (asI (List.range N)) (List.replicate N 0) (k + 1)) (w5.setCell ⟨b, k * 2, none⟩ (.int .i64 (p % d))).drew by
          have h := HW5.out.setR k (p % d) hlt
          rw [ED.out] at h
          have m := MS.out
          rw [EF.out, EQ.out, EI.out] at m
          rw [m.1, m.2.1, m.2.2] at h
          exact h.block (fun _ _ => rfl))
        have HB6 := Lib.hid ((HB5.out.setCell (p := ⟨b, k * 2, none⟩) HW5.out.lt.2.2.2.2.1 (.int .i64 (p % d))).drew)
        clear b8 x0 d0 fR t0 t1
        go_wp2
        go_roundw
        case rel => exact ⟨k + 1, by omega, by go_num, HW6.out, HB6.out⟩
        case measure => simp [intOf]; omega
      · obtain rfl : k = N := by omega
        have lF : (frL l).length = k := by simp [frL, HN.out]
        have lQ : (qsL l).length = k := by simp [qsL, HN.out]
        have lI : (asI (List.range k)).length = k := by simp [asI]
        rw [mix_end lF HN.out.symm, mix_end lQ (by simp), mix_end lI (by simp)] at hW
        have hgl : G.length = k := by rw [WH.out.len]; exact HN.out.symm
        obtain ⟨n1, n2, n3, n4, n5⟩ := hW.nes
        obtain ⟨z1, z2, z3, z4, z5, z6, z7⟩ := hW.lt
        have hOr : OwnI w.heap.size wr gr k (asI (List.range k)) := ⟨by rw [lI]; exact hW.rord, z7⟩
        have hRb : RatBox B8 b 0 cap (frL l) wr := ⟨by rw [lF]; exact (hW.facts hpN).1, fun i hi => by
          have h := hW.facts (k := i) (by rw [← lF]; exact hi)
          rw [Nat.zero_add]
          exact ⟨h.2.1, h.2.2.1⟩⟩
        have ST := Lib.hid (sortStable_any (n0 := w.heap.size) (cap := k) WH.out.rep WH.out.mod hgl hpN hN8 hOr hRb ⟨Ne.symm n3, n5⟩ ⟨z1, z2⟩ hbel.size)
        have HW := Lib.hid hW
        have HBL := Lib.hid hbel
        have NE := Lib.hid (And.intro n1 (And.intro n2 (And.intro n3 (And.intro n4 n5))))
        have ZE := Lib.hid (And.intro z1 (And.intro z2 (And.intro z3 z4)))
        have LI := Lib.hid lI
        have LQ := Lib.hid lQ
        clear hW hbel hgl hOr hRb n1 n2 n3 n4 n5 z1 z2 z3 z4 z5 z6 z7 lF lQ lI
        go_wp2_with fail
        refine ST.out.mono ?_
        rintro e w6 ⟨⟨u, rfl⟩, ⟨L, hL, hOL⟩, hK⟩
        have hll := orde_len hL
        have hLk : L.length = k := by rw [hll, WH.out.len]; exact HN.out.symm
        have hal : (asI L).length = k := by rw [asI_len]; exact hLk
        have W6 : WS w.heap.size B8 b cap go gr k (frL l) (qsL l) (asI L) w6 :=
          ⟨(hK.blk _ ZE.out.1 (Ne.symm NE.out.2.2.1)).trans HW.out.box, row_keep HW.out.row (hK.blk _ ZE.out.2.1 NE.out.2.2.2.2), row_keep HW.out.rout (hK.blk _ ZE.out.2.2.1 HW.out.ne), by have h := hOL.row; rw [hal] at h; exact h, HW.out.ne, HW.out.lr, HW.out.lo, hal⟩
        have HW6 := Lib.hid W6
        have HB6 := Lib.hid (HBL.out.trans hK.bel)
        have HL := Lib.hid hL
        have HLK := Lib.hid hLk
        clear W6 hK hOL hll hal ST hL hLk
        have hIq : IntsAt w6 (.slice (some ⟨go, 0, none⟩) k k) (qsL l) := by
          have h := HW6.out.rout
          rw [← LQ.out] at h ⊢
          exact own_ints h (by rw [LQ.out]; omega)
        have SM := Lib.hid (sum_any _ (qsL l) w6 hIq WH.out.cvl)
        obtain ⟨m, hm⟩ := Int.eq_ofNat_of_zero_le WH.out.lo
        have hmk : m ≤ k := by have h := WH.out.hi; rw [hm, ← HN.out] at h; omega
        have HMN := Lib.hid (show whN n l = m by unfold whN; rw [hm]; rfl)
        have e1 : IntKind.i64.wrap (n - tot (qsL l)) = (m : Int) := by rw [hm]; exact IntWalk.i64_in _ (by omega)
        generalize tot (qsL l) = T at *
        clear hIq
        go_wp2_with fail
        refine SM.out.mono ?_
        rintro e w' ⟨rfl, rfl⟩
        have g0 : (0 : Int) ≤ (m : Int) := by omega
        have g1 : (m : Int) ≤ (k : Int) := by omega
        have IB := Lib.hid (fun L' x => incL_bd L' (qsL l) 1000 (fun i => by
          by_cases hi : i < (qsL l).length
          · exact WH.out.cvl.holds _ (mem_getD hi)
          · rw [List.getD_eq_getElem?_getD, List.getElem?_eq_none (by omega)]; simp) x)
        go_wp2
        clear e1 hm SM
        go_loopw [72] (fun iv wr => ∃ j : Nat, j ≤ m ∧ iv = .int .i64 j ∧ WS w.heap.size B8 b cap go gr k (frL l) (incL (qsL l) (L.take j)) (asI L) wr ∧ Below w.heap.size w wr) (fun iv _ => m - (intOf iv).toNat)
        case atStart => exact ⟨0, Nat.zero_le _, rfl, by simpa [incL] using HW6.out, HB6.out⟩
        case round =>
          clear HW6 HB6
          obtain ⟨j, hj, rfl, hW, hbel⟩ := hrel
          by_cases hjm : j < m
          · have hjm' : (j : Int) < (m : Int) := by omega
            have hjL : j < L.length := by rw [HLK.out]; omega
            have hxk : L[j] < k := by
              have h := orde_lt HL.out (List.getElem_mem hjL)
              rw [WH.out.len, ← HN.out] at h
              exact h
            have q1 := (hW.facts (k := j) (by omega)).2.2.2.2.1
            rw [asI_at hjL] at q1
            obtain ⟨_, _, _, o1, _, _, fo, _⟩ := hW.facts hxk
            have TS := Lib.hid (show incL (qsL l) (L.take (j + 1)) = (incL (qsL l) (L.take j)).set L[j] ((incL (qsL l) (L.take j)).getD L[j] 0 + 1) by rw [List.take_succ_eq_append_getElem hjL, incL_snoc])
            have hbd := IB.out (L.take j) L[j]
            have htl : (L.take j).length ≤ 8 := by rw [List.length_take]; omega
            have HS := Lib.hid (hW.setOut L[j] ((incL (qsL l) (L.take j)).getD L[j] 0 + 1))
            have HB := Lib.hid (hbel.setCell (p := ⟨go, L[j], none⟩) hW.lt.2.2.2.2.2.1 (.int .i64 ((incL (qsL l) (L.take j)).getD L[j] 0 + 1)))
            have hxk' : (L[j] : Int) < (k : Int) := by omega
            generalize L[j] = x at *
            generalize (incL (qsL l) (L.take j)).getD x 0 = y at *
            clear hW hbel hjL
            go_wp2
            go_roundw
            case rel => exact ⟨j + 1, by omega, by go_num, by rw [TS.out]; exact HS.out, HB.out⟩
            case measure => simp [intOf]; omega
          · obtain rfl : j = m := by omega
            have HI := Lib.hid (show IntsAt wr (.slice (some ⟨go, 0, none⟩) k k) (incL (qsL l) (L.take (whN n l))) by
              rw [HMN.out]
              have h := hW.rout
              have hl : (incL (qsL l) (L.take j)).length = k := by rw [incL_len, LQ.out]
              rw [← hl] at h ⊢
              exact own_ints h (by rw [hl]; omega))
            have HB := Lib.hid hbel
            clear hW hbel
            go_wp2
            refine bodyPost_ret (v := .tuple #[.slice (some ⟨go, 0, none⟩) k k, .int .i64 0]) (by simp [results, Try.results28, go_sem]) rfl ⟨_, L, rfl, HL.out, HI.out, HB.out⟩
  · have E := Lib.hid (show shareV c n r = [] by unfold shareV; rw [if_neg h0])
    have hb : (shareE c n r != 0) = true := bne_iff_ne.2 h0
    have GD : Hid (∀ e w', (∃ ov, e = Ending.returned (.tuple #[ov, .int .i64 (shareE c n r)]) ∧ IntsAt w' ov [] ∧ Below w.heap.size w w') → GivesH c n r w e w') := Lib.hid (fun e w' ⟨ov, h1, h3, h4⟩ => ⟨ov, [], h1, h3, h4, fun _ => rfl, fun h => absurd h h0⟩)
    refine Calls.mono ?_ GD.out
    clear h0 GD
    generalize shareE c n r = se at *
    go_enter Try.func28, Try.ntmps28
    go_wp2_with fail
    refine SH.out.mono ?_
    rintro e w1 ⟨v1, rfl, ho1, hb1⟩
    have H1 := ho1.at hl
    rw [E.out] at H1
    obtain ⟨oa, oc, rfl, _⟩ := H1
    have HB1 := Lib.hid hb1
    clear ho1 hb1
    go_wp2
    refine bodyPost_ret (v := .tuple #[.slice none 0 0, .int .i64 se]) (by simp [results, Try.results28, go_sem]) rfl ⟨_, rfl, ⟨none, 0, rfl, by simp, fun h => by simp at h⟩, HB1.out.alloc HB1.out.size _⟩

end Go.Proofs.Ytaakefjblldccaa
