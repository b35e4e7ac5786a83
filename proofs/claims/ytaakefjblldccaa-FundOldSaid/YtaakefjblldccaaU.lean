/- Contracts: the greatest and the least of ratios. -/
import Derived.Test.YtaakefjblldccaaT
namespace Go.Proofs.Ytaakefjblldccaa
open Go.RowKit

/-- a is less than b. -/
def ltR (a b : Rat2) : Bool := decide (a.1 * b.2 < b.1 * a.2)
def stM (b x : Rat2) : Rat2 := if ltR b x then x else b
def stN (b x : Rat2) : Rat2 := if ltR x b then x else b
def mxTo (st : Rat2 → Rat2 → Rat2) (l : List Rat2) (k : Nat) : Rat2 := (l.take k).foldl st (l.getD 0 (0, 0))
theorem ltR_self (a : Rat2) : ltR a a = false := by unfold ltR; simp
theorem mxTo_snoc (st : Rat2 → Rat2 → Rat2) {l : List Rat2} {k : Nat} (hk : k < l.length) : mxTo st l (k + 1) = st (mxTo st l k) (l.getD k (0, 0)) := by
  unfold mxTo
  rw [List.take_succ_eq_append_getElem hk, List.foldl_append, List.getD_eq_getElem?_getD (l := l) (i := k), List.getElem?_eq_getElem hk]
  rfl
theorem mxTo_one {st : Rat2 → Rat2 → Rat2} (h : ∀ a, st a a = a) {l : List Rat2} (hl : 0 < l.length) : mxTo st l 1 = l.getD 0 (0, 0) := by
  rw [mxTo_snoc st hl]; unfold mxTo; simp [h]
theorem stM_self (a : Rat2) : stM a a = a := by unfold stM; simp
theorem stN_self (a : Rat2) : stN a a = a := by unfold stN; simp
theorem stM_mem (a b : Rat2) : stM a b = a ∨ stM a b = b := by unfold stM; split <;> simp
theorem stN_mem (a b : Rat2) : stN a b = a ∨ stN a b = b := by unfold stN; split <;> simp
theorem mxTo_mem {st : Rat2 → Rat2 → Rat2} (h : ∀ a b, st a b = a ∨ st a b = b) {l : List Rat2} (hl : 0 < l.length) : ∀ k, k ≤ l.length → mxTo st l k ∈ l
  | 0, _ => by unfold mxTo; simp only [List.take_zero, List.foldl_nil]; exact getD_mem2 hl
  | k + 1, hk => by
    rw [mxTo_snoc st (by omega)]
    rcases h (mxTo st l k) (l.getD k (0, 0)) with e | e <;> rw [e]
    · exact mxTo_mem h hl k (by omega)
    · exact getD_mem2 (by omega)

/-- The result's block, and the box of the best so far. -/
structure MxAt (w : World) (r : Rat2) (wr : World) : Prop where
  c0 : wr.cell? ⟨w.heap.size, 0, none⟩ = some (.int .i64 0)
  c1 : wr.cell? ⟨w.heap.size, 1, none⟩ = some (.int .i64 0)
  f0 : wr.frozen? ⟨w.heap.size, 0, none⟩ = false
  f1 : wr.frozen? ⟨w.heap.size, 1, none⟩ = false
  b0 : wr.cell? ⟨w.heap.size + 1, 0, none⟩ = some (.int .i64 r.1)
  b1 : wr.cell? ⟨w.heap.size + 1, 1, none⟩ = some (.int .i64 r.2)
  g0 : wr.frozen? ⟨w.heap.size + 1, 0, none⟩ = false
  g1 : wr.frozen? ⟨w.heap.size + 1, 1, none⟩ = false
  bel : Below w.heap.size w wr
  sz : w.heap.size + 1 < wr.heap.size

theorem MxAt.below {w : World} {r : Rat2} {wr w2 : World} (h : MxAt w r wr) (hb : Below wr.heap.size wr w2) : MxAt w r w2 := by
  have h1 := h.sz
  have hs := hb.size
  have h0 : w.heap.size < wr.heap.size := by omega
  exact ⟨(hb.cell (p := ⟨w.heap.size, 0, none⟩) h0).trans h.c0, (hb.cell (p := ⟨w.heap.size, 1, none⟩) h0).trans h.c1, (hb.frozen (p := ⟨w.heap.size, 0, none⟩) h0).trans h.f0, (hb.frozen (p := ⟨w.heap.size, 1, none⟩) h0).trans h.f1,
    (hb.cell (p := ⟨w.heap.size + 1, 0, none⟩) h1).trans h.b0, (hb.cell (p := ⟨w.heap.size + 1, 1, none⟩) h1).trans h.b1, (hb.frozen (p := ⟨w.heap.size + 1, 0, none⟩) h1).trans h.g0, (hb.frozen (p := ⟨w.heap.size + 1, 1, none⟩) h1).trans h.g1,
    below_trans h.bel hb, by omega⟩
theorem MxAt.stored {w : World} {r : Rat2} {wr : World} (h : MxAt w r wr) (x : Rat2) : MxAt w x ((wr.setCell ⟨w.heap.size + 1, 0, none⟩ (.int .i64 x.1)).setCell ⟨w.heap.size + 1, 1, none⟩ (.int .i64 x.2)) := by
  obtain ⟨c0, c1, f0, f1, b0, b1, g0, g1, bel, sz⟩ := h
  exact ⟨by simp [go_sem, c0], by simp [go_sem, c1], by simp [go_sem, f0], by simp [go_sem, f1], by simp [go_sem, b0], by simp [go_sem, b1], by simp [go_sem, g0], by simp [go_sem, g1],
    (bel.setCell (p := ⟨w.heap.size + 1, 0, none⟩) (Nat.le_succ _) _).setCell (p := ⟨w.heap.size + 1, 1, none⟩) (Nat.le_succ _) _, by simpa using sz⟩

theorem MxAt.start (w : World) (r : Rat2) : MxAt w r ((w.alloc (.cells #[.int .i64 0, .int .i64 0] 23)).alloc (.cells #[.int .i64 r.1, .int .i64 r.2] 23)) := by
  have hs : (w.alloc (.cells #[.int .i64 0, .int .i64 0] 23)).heap.size = w.heap.size + 1 := by simp
  refine ⟨by simp, by simp, by simp, by simp, ?_, ?_, ?_, ?_, ((Below.refl _ _).alloc (Nat.le_refl _) _).alloc (by simp) _, by simp⟩ <;> rw [← hs] <;> simp

set_option maxRecDepth 100000 in
set_option maxHeartbeats 2000000 in
theorem maxFunc_any (v : Value) (l : List Rat2) (w : World) (hv : RatsAt w v l) (l0 : 0 < l.length) (hl8 : l.length ≤ 8) (hm : Mod l) :
    Calls Try.prog 73 #[v, .func (.func 66) #[] #[]] w fun e w' => e = .returned (.agg #[.int .i64 (mxTo stM l l.length).1, .int .i64 (mxTo stM l l.length).2]) ∧ Below w.heap.size w w' := by
  obtain ⟨b, off, cap, hcap, rfl, hcl⟩ := rats_cell hv l0
  have HR := Lib.hid hcl
  have HM := Lib.hid hm
  have HB := Lib.hid (fun k (hk : k ≤ l.length) => hm _ (mxTo_mem stM_mem l0 k hk))
  have S1 := Lib.hid (mxTo_one stM_self l0)
  obtain ⟨x0, d0⟩ := hcl 0 l0
  have x1 := keep_cell ((Below.refl w.heap.size w).alloc (Nat.le_refl _) (.cells #[.int .i64 0, .int .i64 0] 23)) x0
  have d1 := keep_cell ((Below.refl w.heap.size w).alloc (Nat.le_refl _) (.cells #[.int .i64 0, .int .i64 0] 23)) d0
  have hbl : b < w.heap.size := World.block_lt_of_cell? _ _ x0
  simp only [Nat.zero_mul, Nat.add_zero] at x1 d1
  clear hv hm hcl hcap x0 d0
  rw [← S1.out] at x1 d1
  have MS := Lib.hid (MxAt.start w (mxTo stM l 1))
  go_enter Try.func73, Try.ntmps73
  go_wp2
  go_loopw [6] (fun i wr => ∃ k : Nat, k ≤ l.length ∧ 1 ≤ k ∧ i = .int .i64 k ∧ MxAt w (mxTo stM l k) wr) (fun i _ => l.length - (intOf i).toNat)
  case atStart => exact ⟨1, l0, Nat.le_refl _, rfl, MS.out⟩
  case round =>
    obtain ⟨k, hk, hk1, rfl, MA⟩ := hrel
    by_cases hlt : k < l.length
    · obtain ⟨x0, d0⟩ := HR.out k hlt
      have x1 := keep_cell MA.bel x0
      have d1 := keep_cell MA.bel d0
      have hx := HM.out _ (getD_mem2 hlt)
      have hr := HB.out k hk
      have S := Lib.hid (mxTo_snoc stM hlt)
      have M := Lib.hid MA
      obtain ⟨c0, c1, f0, f1, b0, b1, g0, g1, bel, sz⟩ := MA
      clear x0 d0 c0 c1 f0 f1 g0 g1
      generalize mxTo stM l k = r at *
      generalize l.getD k (0, 0) = xd at *
      obtain ⟨n, d⟩ := xd
      obtain ⟨p, q⟩ := r
      simp only at x1 d1 hx hr b0 b1
      have m1 : -1000000000 * 1000000 ≤ n * q ∧ n * q ≤ 1000000000 * 1000000 := by
        constructor
        · have := Int.mul_le_mul_of_nonneg_right (show -1000000000 ≤ n by omega) (show 0 ≤ q by omega)
          have := Int.mul_le_mul_of_nonneg_left (show q ≤ 1000000 by omega) (show (0 : Int) ≤ 1000000000 by omega)
          omega
        · have := Int.mul_le_mul_of_nonneg_right (show n ≤ 1000000000 by omega) (show 0 ≤ q by omega)
          omega
      have m2 : -1000000000 * 1000000 ≤ p * d ∧ p * d ≤ 1000000000 * 1000000 := by
        constructor
        · have := Int.mul_le_mul_of_nonneg_right (show -1000000000 ≤ p by omega) (show 0 ≤ d by omega)
          omega
        · have := Int.mul_le_mul_of_nonneg_right (show p ≤ 1000000000 by omega) (show 0 ≤ d by omega)
          omega
      have C := Lib.hid (fun W => compare_any n d p q W (by omega) (by omega))
      have hszw := bel.size
      by_cases hgt : p * d < n * q
      · have MK : Hid (mxTo stM l (k + 1) = (n, d)) := Lib.hid (by rw [S.out]; unfold stM ltR; simp only [hgt, decide_true, if_true])
        have hcv : Hid (Lib.compareInt (n * q) (p * d) = 1) := Lib.hid (by unfold Lib.compareInt; rw [if_neg (by omega), if_pos (by omega)])
        clear S hgt
        go_wp2
        go_still_tail 6, (by kernel_rfl)
        change wpList _ _ _ _ _ wr.drew
        go_wp2_with fail
        refine (C.out _).mono ?_
        rintro e w2 ⟨rfl, hb2⟩
        rw [hcv.out]
        have hb3 : Below wr.heap.size wr w2 := ((Below.refl _ _).drew).trans hb2
        have M2 := M.out.below hb3
        have M3 := Lib.hid (M2.stored (n, d))
        have x2 := keep_cell hb3 x1
        have d2 := keep_cell hb3 d1
        obtain ⟨c0, c1, f0, f1, b2, b3, g0, g1, bel2, sz2⟩ := M2
        clear x1 d1 b0 b1 c0 c1 f0 f1 hb2 hb3
        go_wp2
        go_roundw
        case rel => exact ⟨k + 1, by omega, by omega, by go_num, by rw [MK.out]; exact M3.out⟩
        case measure => simp [intOf]; omega
      · have MK : Hid (mxTo stM l (k + 1) = (p, q)) := Lib.hid (by rw [S.out]; unfold stM ltR; rw [decide_eq_false hgt]; rfl)
        have hcv : Lib.compareInt (n * q) (p * d) ≤ 0 := by unfold Lib.compareInt; split <;> (try split) <;> omega
        clear S
        generalize Lib.compareInt (n * q) (p * d) = cv at *
        go_wp2
        go_still_tail 6, (by kernel_rfl)
        change wpList _ _ _ _ _ wr.drew
        go_wp2_with fail
        refine (C.out _).mono ?_
        rintro e w2 ⟨rfl, hb2⟩
        have hb3 : Below wr.heap.size wr w2 := ((Below.refl _ _).drew).trans hb2
        have M3 := Lib.hid (M.out.below hb3)
        clear x1 d1 b0 b1 hb2 hb3
        go_wp2
        go_roundw
        case rel => exact ⟨k + 1, by omega, by omega, by go_num, by rw [MK.out]; exact M3.out⟩
        case measure => simp [intOf]; omega
    · have e : k = l.length := by omega
      subst e
      have HB2 := Lib.hid MA.bel
      obtain ⟨c0, c1, f0, f1, b0, b1, g0, g1, bel, sz⟩ := MA
      generalize hrr : mxTo stM l l.length = r at *
      have R := Lib.hid hrr
      clear hrr
      go_wp2
      exact bodyPost_ret (v := .agg #[.int .i64 r.1, .int .i64 r.2]) (by simp [results, Try.results73, go_sem, c0, c1]) rfl ⟨by rw [R.out], (HB2.out.setCell (p := ⟨w.heap.size, 0, none⟩) (Nat.le_refl _) _).setCell (p := ⟨w.heap.size, 1, none⟩) (Nat.le_refl _) _⟩

set_option maxRecDepth 100000 in
set_option maxHeartbeats 2000000 in
theorem minFunc_any (v : Value) (l : List Rat2) (w : World) (hv : RatsAt w v l) (l0 : 0 < l.length) (hl8 : l.length ≤ 8) (hm : Mod l) :
    Calls Try.prog 81 #[v, .func (.func 66) #[] #[]] w fun e w' => e = .returned (.agg #[.int .i64 (mxTo stN l l.length).1, .int .i64 (mxTo stN l l.length).2]) ∧ Below w.heap.size w w' := by
  obtain ⟨b, off, cap, hcap, rfl, hcl⟩ := rats_cell hv l0
  have HR := Lib.hid hcl
  have HM := Lib.hid hm
  have HB := Lib.hid (fun k (hk : k ≤ l.length) => hm _ (mxTo_mem stN_mem l0 k hk))
  have S1 := Lib.hid (mxTo_one stN_self l0)
  obtain ⟨x0, d0⟩ := hcl 0 l0
  have x1 := keep_cell ((Below.refl w.heap.size w).alloc (Nat.le_refl _) (.cells #[.int .i64 0, .int .i64 0] 23)) x0
  have d1 := keep_cell ((Below.refl w.heap.size w).alloc (Nat.le_refl _) (.cells #[.int .i64 0, .int .i64 0] 23)) d0
  have hbl : b < w.heap.size := World.block_lt_of_cell? _ _ x0
  simp only [Nat.zero_mul, Nat.add_zero] at x1 d1
  clear hv hm hcl hcap x0 d0
  rw [← S1.out] at x1 d1
  have MS := Lib.hid (MxAt.start w (mxTo stN l 1))
  go_enter Try.func81, Try.ntmps81
  go_wp2
  go_loopw [6] (fun i wr => ∃ k : Nat, k ≤ l.length ∧ 1 ≤ k ∧ i = .int .i64 k ∧ MxAt w (mxTo stN l k) wr) (fun i _ => l.length - (intOf i).toNat)
  case atStart => exact ⟨1, l0, Nat.le_refl _, rfl, MS.out⟩
  case round =>
    obtain ⟨k, hk, hk1, rfl, MA⟩ := hrel
    by_cases hlt : k < l.length
    · obtain ⟨x0, d0⟩ := HR.out k hlt
      have x1 := keep_cell MA.bel x0
      have d1 := keep_cell MA.bel d0
      have hx := HM.out _ (getD_mem2 hlt)
      have hr := HB.out k hk
      have S := Lib.hid (mxTo_snoc stN hlt)
      have M := Lib.hid MA
      obtain ⟨c0, c1, f0, f1, b0, b1, g0, g1, bel, sz⟩ := MA
      clear x0 d0 c0 c1 f0 f1 g0 g1
      generalize mxTo stN l k = r at *
      generalize l.getD k (0, 0) = xd at *
      obtain ⟨n, d⟩ := xd
      obtain ⟨p, q⟩ := r
      simp only at x1 d1 hx hr b0 b1
      have m1 : -1000000000 * 1000000 ≤ n * q ∧ n * q ≤ 1000000000 * 1000000 := by
        constructor
        · have := Int.mul_le_mul_of_nonneg_right (show -1000000000 ≤ n by omega) (show 0 ≤ q by omega)
          have := Int.mul_le_mul_of_nonneg_left (show q ≤ 1000000 by omega) (show (0 : Int) ≤ 1000000000 by omega)
          omega
        · have := Int.mul_le_mul_of_nonneg_right (show n ≤ 1000000000 by omega) (show 0 ≤ q by omega)
          omega
      have m2 : -1000000000 * 1000000 ≤ p * d ∧ p * d ≤ 1000000000 * 1000000 := by
        constructor
        · have := Int.mul_le_mul_of_nonneg_right (show -1000000000 ≤ p by omega) (show 0 ≤ d by omega)
          omega
        · have := Int.mul_le_mul_of_nonneg_right (show p ≤ 1000000000 by omega) (show 0 ≤ d by omega)
          omega
      have C := Lib.hid (fun W => compare_any n d p q W (by omega) (by omega))
      have hszw := bel.size
      by_cases hgt : n * q < p * d
      · have MK : Hid (mxTo stN l (k + 1) = (n, d)) := Lib.hid (by rw [S.out]; unfold stN ltR; simp only [hgt, decide_true, if_true])
        have hcv : Hid (Lib.compareInt (n * q) (p * d) = -1) := Lib.hid (cmp_lt hgt)
        clear S hgt
        go_wp2
        go_still_tail 6, (by kernel_rfl)
        change wpList _ _ _ _ _ wr.drew
        go_wp2_with fail
        refine (C.out _).mono ?_
        rintro e w2 ⟨rfl, hb2⟩
        rw [hcv.out]
        have hb3 : Below wr.heap.size wr w2 := ((Below.refl _ _).drew).trans hb2
        have M2 := M.out.below hb3
        have M3 := Lib.hid (M2.stored (n, d))
        have x2 := keep_cell hb3 x1
        have d2 := keep_cell hb3 d1
        obtain ⟨c0, c1, f0, f1, b2, b3, g0, g1, bel2, sz2⟩ := M2
        clear x1 d1 b0 b1 c0 c1 f0 f1 hb2 hb3
        go_wp2
        go_roundw
        case rel => exact ⟨k + 1, by omega, by omega, by go_num, by rw [MK.out]; exact M3.out⟩
        case measure => simp [intOf]; omega
      · have MK : Hid (mxTo stN l (k + 1) = (p, q)) := Lib.hid (by rw [S.out]; unfold stN ltR; rw [decide_eq_false hgt]; rfl)
        have hcv : 0 ≤ Lib.compareInt (n * q) (p * d) := cmp_ge hgt
        clear S
        generalize Lib.compareInt (n * q) (p * d) = cv at *
        go_wp2
        go_still_tail 6, (by kernel_rfl)
        change wpList _ _ _ _ _ wr.drew
        go_wp2_with fail
        refine (C.out _).mono ?_
        rintro e w2 ⟨rfl, hb2⟩
        have hb3 : Below wr.heap.size wr w2 := ((Below.refl _ _).drew).trans hb2
        have M3 := Lib.hid (M.out.below hb3)
        clear x1 d1 b0 b1 hb2 hb3
        go_wp2
        go_roundw
        case rel => exact ⟨k + 1, by omega, by omega, by go_num, by rw [MK.out]; exact M3.out⟩
        case measure => simp [intOf]; omega
    · have e : k = l.length := by omega
      subst e
      have HB2 := Lib.hid MA.bel
      obtain ⟨c0, c1, f0, f1, b0, b1, g0, g1, bel, sz⟩ := MA
      generalize hrr : mxTo stN l l.length = r at *
      have R := Lib.hid hrr
      clear hrr
      go_wp2
      exact bodyPost_ret (v := .agg #[.int .i64 r.1, .int .i64 r.2]) (by simp [results, Try.results81, go_sem, c0, c1]) rfl ⟨by rw [R.out], (HB2.out.setCell (p := ⟨w.heap.size, 0, none⟩) (Nat.le_refl _) _).setCell (p := ⟨w.heap.size, 1, none⟩) (Nat.le_refl _) _⟩

set_option maxRecDepth 100000 in
set_option maxHeartbeats 2000000 in
theorem greatest_any (v : Value) (l : List Rat2) (w : World) (hv : RatsAt w v l) (l0 : 0 < l.length) (hl8 : l.length ≤ 8) (hm : Mod l) :
    Calls Try.prog 75 #[v] w fun e w' => e = .returned (.agg #[.int .i64 (mxTo stM l l.length).1, .int .i64 (mxTo stM l l.length).2]) ∧ Below w.heap.size w w' := by
  obtain ⟨b, off, cap, hcap, rfl, hcl⟩ := rats_cell hv l0
  have HR := Lib.hid hcl
  have HM := Lib.hid hm
  have HB := Lib.hid (fun k (hk : k ≤ l.length) => hm _ (mxTo_mem stM_mem l0 k hk))
  have S1 : Hid (mxTo stM l 0 = l.getD 0 (0, 0)) := Lib.hid (by unfold mxTo; simp)
  obtain ⟨x0, d0⟩ := hcl 0 l0
  have x1 := keep_cell ((Below.refl w.heap.size w).alloc (Nat.le_refl _) (.cells #[.int .i64 0, .int .i64 0] 23)) x0
  have d1 := keep_cell ((Below.refl w.heap.size w).alloc (Nat.le_refl _) (.cells #[.int .i64 0, .int .i64 0] 23)) d0
  have hbl : b < w.heap.size := World.block_lt_of_cell? _ _ x0
  simp only [Nat.zero_mul, Nat.add_zero] at x1 d1
  clear hv hm hcl hcap x0 d0
  rw [← S1.out] at x1 d1
  have MS := Lib.hid (MxAt.start w (mxTo stM l 0))
  go_enter Try.func75, Try.ntmps75
  go_wp2
  go_loopw [4] (fun i wr => ∃ k : Nat, k ≤ l.length ∧ i = .int .i64 k ∧ MxAt w (mxTo stM l k) wr) (fun i _ => l.length - (intOf i).toNat)
  case atStart => exact ⟨0, Nat.zero_le _, rfl, MS.out⟩
  case round =>
    obtain ⟨k, hk, rfl, MA⟩ := hrel
    by_cases hlt : k < l.length
    · obtain ⟨x0, d0⟩ := HR.out k hlt
      have x1 := keep_cell MA.bel x0
      have d1 := keep_cell MA.bel d0
      have hx := HM.out _ (getD_mem2 hlt)
      have hr := HB.out k hk
      have S := Lib.hid (mxTo_snoc stM hlt)
      have M := Lib.hid MA
      obtain ⟨c0, c1, f0, f1, b0, b1, g0, g1, bel, sz⟩ := MA
      clear x0 d0 c0 c1 f0 f1 g0 g1
      generalize mxTo stM l k = r at *
      generalize l.getD k (0, 0) = xd at *
      obtain ⟨n, d⟩ := xd
      obtain ⟨p, q⟩ := r
      simp only at x1 d1 hx hr b0 b1
      have m1 : -1000000000 * 1000000 ≤ n * q ∧ n * q ≤ 1000000000 * 1000000 := by
        constructor
        · have := Int.mul_le_mul_of_nonneg_right (show -1000000000 ≤ n by omega) (show 0 ≤ q by omega)
          have := Int.mul_le_mul_of_nonneg_left (show q ≤ 1000000 by omega) (show (0 : Int) ≤ 1000000000 by omega)
          omega
        · have := Int.mul_le_mul_of_nonneg_right (show n ≤ 1000000000 by omega) (show 0 ≤ q by omega)
          omega
      have m2 : -1000000000 * 1000000 ≤ p * d ∧ p * d ≤ 1000000000 * 1000000 := by
        constructor
        · have := Int.mul_le_mul_of_nonneg_right (show -1000000000 ≤ p by omega) (show 0 ≤ d by omega)
          omega
        · have := Int.mul_le_mul_of_nonneg_right (show p ≤ 1000000000 by omega) (show 0 ≤ d by omega)
          omega
      have C := Lib.hid (fun W => rBelow_any p q n d W (by omega) (by omega))
      have hszw := bel.size
      by_cases hgt : p * d < n * q
      · have MK : Hid (mxTo stM l (k + 1) = (n, d)) := Lib.hid (by rw [S.out]; unfold stM ltR; simp only [hgt, decide_true, if_true])
        have hcv : Hid (decide (p * d < n * q) = true) := Lib.hid (decide_eq_true hgt)
        clear S hgt
        go_wp2
        go_still_tail 5, (by kernel_rfl)
        change wpList _ _ _ _ _ wr.drew
        go_wp2_with fail
        refine (C.out _).mono ?_
        rintro e w2 ⟨rfl, hb2⟩
        rw [hcv.out]
        have hb3 : Below wr.heap.size wr w2 := ((Below.refl _ _).drew).trans hb2
        have M2 := M.out.below hb3
        have M3 := Lib.hid (M2.stored (n, d))
        have x2 := keep_cell hb3 x1
        have d2 := keep_cell hb3 d1
        obtain ⟨c0, c1, f0, f1, b2, b3, g0, g1, bel2, sz2⟩ := M2
        clear x1 d1 b0 b1 c0 c1 f0 f1 hb2 hb3
        go_wp2
        go_roundw
        case rel => exact ⟨k + 1, by omega, by go_num, by rw [MK.out]; exact M3.out⟩
        case measure => simp [intOf]; omega
      · have MK : Hid (mxTo stM l (k + 1) = (p, q)) := Lib.hid (by rw [S.out]; unfold stM ltR; rw [decide_eq_false hgt]; rfl)
        have hcv : Hid (decide (p * d < n * q) = false) := Lib.hid (decide_eq_false hgt)
        clear S hgt
        go_wp2
        go_still_tail 5, (by kernel_rfl)
        change wpList _ _ _ _ _ wr.drew
        go_wp2_with fail
        refine (C.out _).mono ?_
        rintro e w2 ⟨rfl, hb2⟩
        rw [hcv.out]
        have hb3 : Below wr.heap.size wr w2 := ((Below.refl _ _).drew).trans hb2
        have M3 := Lib.hid (M.out.below hb3)
        clear x1 d1 b0 b1 hb2 hb3
        go_wp2
        go_roundw
        case rel => exact ⟨k + 1, by omega, by go_num, by rw [MK.out]; exact M3.out⟩
        case measure => simp [intOf]; omega
    · have e : k = l.length := by omega
      subst e
      have HB2 := Lib.hid MA.bel
      obtain ⟨c0, c1, f0, f1, b0, b1, g0, g1, bel, sz⟩ := MA
      generalize hrr : mxTo stM l l.length = r at *
      have R := Lib.hid hrr
      clear hrr
      go_wp2
      exact bodyPost_ret (v := .agg #[.int .i64 r.1, .int .i64 r.2]) (by simp [results, Try.results75, go_sem, c0, c1]) rfl ⟨by rw [R.out], (HB2.out.setCell (p := ⟨w.heap.size, 0, none⟩) (Nat.le_refl _) _).setCell (p := ⟨w.heap.size, 1, none⟩) (Nat.le_refl _) _⟩

end Go.Proofs.Ytaakefjblldccaa
