/- Contracts: going over all deeds. -/
import Derived.Test.YtikcpfpeoofppaaDd
import Derived.RangeFuncBox
import Derived.RangeFuncNested
import Derived.RangeFuncLeaves
import Derived.Shelf.Abstract
import Derived.WalkKit
import Derived.OwnWalkIn
import Derived.TacticsInMore
import Derived.LoopNIn
import Derived.LoopIn
import Derived.Maps.AppendAt
import Derived.KernelRfl
namespace Go.Proofs.Ytikcpfpeoofppaa
open Go.RowKit Go.Shelf

attribute [local go_sem] Oper.semAt_some


/-- What a round keeps: what lay below n0, and every block of ints. -/
def Kd (n0 : Nat) (W W' : World) : Prop := Below n0 W W' ∧ ∀ (b : Nat) cur fr, W.heap[b]? = some (Obj.cells cur 3 fr) → W'.heap[b]? = some (Obj.cells cur 3 fr)
theorem Kd.refl (n0 : Nat) (W : World) : Kd n0 W W := ⟨Below.refl _ _, fun _ _ _ h => h⟩
theorem Kd.trans {n0 : Nat} {A B C : World} (h : Kd n0 A B) (k : Kd n0 B C) : Kd n0 A C := ⟨h.1.trans k.1, fun b cur fr e => k.2 b cur fr (h.2 b cur fr e)⟩
theorem Kd.put {n0 : Nat} {w : World} (hn : n0 ≤ w.heap.size) (W : World) (l : Nat) (o o' : Obj) (hl : w.heap.size ≤ l) (h : W.heap[l]? = some o) (hc : o.isCells = false) (hw : o.isWalk = false) : Kd n0 W (W.putObj l o') := by
  refine ⟨belowK_b hn W l o o' hl h hc hw, fun b cur fr e => ?_⟩
  have hne : b ≠ l := by
    rintro rfl
    rw [h] at e
    cases e
    simp [Obj.isCells] at hc
  exact (World.putObj_heap_other hne).trans e
theorem Kd.below {n0 : Nat} {W W' : World} (hn : n0 ≤ W.heap.size) (h : Below W.heap.size W W') : Kd n0 W W' :=
  ⟨h.mono hn, fun b _cur _fr e => (h.block b (Array.getElem?_eq_some_iff.1 e).1).trans e⟩
theorem Kd.grown {n0 : Nat} {W W' : World} {row : Option Nat} (hg : W.grownBy W' row) (hn : n0 ≤ W.heap.size) (hr : ∀ k, row = some k → n0 ≤ k ∧ ∀ cur fr, W.heap[k]? ≠ some (.cells cur 3 fr)) : Kd n0 W W' :=
  ⟨(Below.refl n0 W).grown hg hn (fun k e => (hr k e).1), fun b cur fr e => (hg.block b (Array.getElem?_eq_some_iff.1 e).1 (fun e' => (hr b e'.symm).2 cur fr e)).trans e⟩

set_option maxRecDepth 100000 in
set_option maxHeartbeats 4000000 in
/-- The closure of deeds. -/
theorem deeds1_in (F : Fence) (n : Nat) (h7 : F.fn 88) (hro : F.round = none) (hn : 1 ≤ n) (l Bs n0 : Nat) (a : Option Addr) (m cap : Nat) (hm : m ≤ 4) (hBs0 : Bs < n0) (J Jx : List Deed → World → Prop)
    (hY : ∀ pre x W, J pre W → pre.length < 24 → YieldAt F (n - 1) Try.prog l #[deedV x] W fun e W' =>
      (e = .returned (.bool true) ∧ J (pre ++ [x]) W' ∧ Kd n0 W W') ∨ (e = .returned (.bool false) ∧ Jx (pre ++ [x]) W'))
    (W : World) (hn0 : n0 ≤ W.heap.size) (hJ : AbidesFrom W.heap.size J) (hBs : W.cell? ⟨Bs, 0, none⟩ = some (.slice a m cap)) (h0 : J [] W) :
    CallsIn F n Try.prog 88 #[.func (.yield l) #[] #[], .pointer (some ⟨Bs, 0, none⟩)] W fun e W' => (∃ v, e = .returned v) ∧
      ((∃ ys, ys = deedsL m ∧ J ys W') ∨ (∃ pre, True ∧ Jx pre W')) := by
  have h0' : J [] (W.alloc (.cells #[.int .i64 1, .int .i64 2] 3)) := hJ [] W _ none h0 (World.grownBy_alloc W _ none) (fun r e => by cases e)
  have hb0 : Below n0 W (W.alloc (.cells #[.int .i64 1, .int .i64 2] 3)) := (Below.refl n0 W).alloc hn0 _
  have hlit : (W.alloc (.cells #[.int .i64 1, .int .i64 2] 3)).heap[W.heap.size]? = some (.cells #[.int .i64 1, .int .i64 2] 3 (0, 0)) := World.alloc_heap_new W _
  refine callsIn_of_wp Try.func88 rfl h7 ?_ hro
  simp only [Try.ntmps88, List.size_toArray, List.length_cons, List.length_nil, Nat.reduceAdd, Nat.reduceSub, Array.replicate_succ, Array.replicate_zero, List.push_toArray, List.append_toArray, List.nil_append, List.cons_append]
  clear hJ
  gi_wp2
  gi_loopw [10] (fun i wr => ∃ k : Nat, k ≤ 2 ∧ i = .int .i64 k ∧ J (preF k m) wr ∧ Below n0 W wr ∧ wr.heap[W.heap.size]? = some (.cells #[.int .i64 1, .int .i64 2] 3 (0, 0))) (fun i _ => 2 - (intOf i).toNat)
  case atStart => exact ⟨0, by omega, rfl, h0', hb0, hlit⟩
  case round =>
    obtain ⟨k, hk, rfl, hJs, hnx, hl2⟩ := hrel
    obtain ⟨wo, rfl⟩ : ∃ wo : World, wo = wr := ⟨_, rfl⟩
    have hb1 := (hnx.cell (p := ⟨Bs, 0, none⟩) hBs0).trans hBs
    by_cases hlt : k < 2
    · have hcx : wo.cell? ⟨W.heap.size, k, none⟩ = some (.int .i64 ((k : Int) + 1)) := by
        have hk2 : k = 0 ∨ k = 1 := by omega
        rcases hk2 with rfl | rfl <;> simp [World.cell?, hl2]
      have hP := Lib.hid (preF_snoc k m)
      gi_wp2
      rw [show decide ((k : Int) < 2) = true from decide_eq_true (by omega)]
      gi_loopw [16] (fun i wr => ∃ j : Nat, j ≤ m ∧ i = .int .i64 j ∧ J (preF k m ++ fillsL ((k : Int) + 1) j) wr ∧ Below n0 W wr ∧ wr.heap[W.heap.size]? = some (.cells #[.int .i64 1, .int .i64 2] 3 (0, 0))) (fun i _ => m - (intOf i).toNat)
      case atStart => exact ⟨0, by omega, rfl, by simpa [fillsL] using hJs, hnx, hl2⟩
      case round =>
        obtain ⟨j, hj, rfl, hJ2, hn2, hl3⟩ := hrel
        have hb2 := (hn2.cell (p := ⟨Bs, 0, none⟩) hBs0).trans hBs
        by_cases hjm : j < m
        · have hS := Lib.hid (fillsL_snoc ((k : Int) + 1) j)
          obtain ⟨fn, tmps, assign, body, hy, hR⟩ := hY _ ((k : Int) + 1, 0, (j : Int)) wr hJ2 (by rw [List.length_append, preF_len, fillsL_len]; have : k * m ≤ 1 * 4 := Nat.mul_le_mul (by omega) hm; omega)
          simp only [deedV] at hy
          gi_wp2
          refine hR.mono ?_
          rintro e W3 (⟨rfl, hJ3, hk3⟩ | ⟨rfl, hJx3⟩)
          · gi_wp2
            go_roundw
            case rel => exact ⟨j + 1, by omega, by go_num, by rw [hS.out, ← List.append_assoc]; exact hJ3, hn2.trans hk3.1, hk3.2 _ _ _ hl3⟩
            case measure => simp [intOf]; omega
          · gi_wp2
            refine bodyPost_ret (results_none rfl _ _ _) rfl ?_
            exact ⟨⟨_, rfl⟩, .inr ⟨_, trivial, hJx3⟩⟩
        · obtain rfl : j = m := by omega
          gi_wp2
          go_roundw
          case rel => exact ⟨k + 1, by omega, by go_num, by rw [hP.out]; exact hJ2, hn2, hl3⟩
          case measure => simp [intOf]; omega
    · have hk2 : k = 2 := by omega
      rw [hk2] at hJs
      clear hk2
      gi_wp2
      gi_loopw [29] (fun i wr => ∃ f : Nat, f ≤ m ∧ i = .int .i64 f ∧ J (preF 2 m ++ preP m f) wr ∧ Below n0 W wr) (fun i _ => m - (intOf i).toNat)
      case atStart => exact ⟨0, by omega, rfl, by simpa [preP] using hJs, hnx⟩
      case round =>
        clear hnx hl2 hb1 hJs
        obtain ⟨f, hf, rfl, hJs, hnx⟩ := hrel
        obtain ⟨wp, rfl⟩ : ∃ wp : World, wp = wr := ⟨_, rfl⟩
        have hb1 := (hnx.cell (p := ⟨Bs, 0, none⟩) hBs0).trans hBs
        by_cases hlt : f < m
        · have hP := Lib.hid (preP_snoc m f)
          gi_wp2
          try rw [show decide ((f : Int) < (m : Int)) = true from decide_eq_true (by omega)]
          gi_loopw [34] (fun i wr => ∃ j : Nat, j ≤ m ∧ i = .int .i64 j ∧ J (preF 2 m ++ preP m f ++ pF f j) wr ∧ Below n0 W wr) (fun i _ => m - (intOf i).toNat)
          case atStart => exact ⟨0, by omega, rfl, by simpa [pF] using hJs, hnx⟩
          case round =>
            obtain ⟨j, hj, rfl, hJ2, hn2⟩ := hrel
            have hb2 := (hn2.cell (p := ⟨Bs, 0, none⟩) hBs0).trans hBs
            by_cases hjm : j < m
            · by_cases hjf : j = f
              · subst hjf
                have hS := Lib.hid (pF_same j)
                gi_wp2
                refine ⟨(fun g hg => nomatch hg), ?_⟩
                gi_wp2
                go_roundw
                case rel => exact ⟨j + 1, by omega, by go_num, by rw [hS.out]; exact hJ2, hn2⟩
                case measure => simp [intOf]; omega
              · have hS := Lib.hid (pF_snoc hjf)
                have hne : (f : Int) ≠ (j : Int) := by omega
                obtain ⟨fn, tmps, assign, body, hy, hR⟩ := hY _ (3, (f : Int), (j : Int)) wr hJ2 (by
                  have h1 := preP_len m f
                  have h2 := pF_len f j
                  have h3 : f * m ≤ 3 * 4 := Nat.mul_le_mul (by omega) hm
                  rw [List.length_append, List.length_append, preF_len]; omega)
                simp only [deedV] at hy
                gi_wp2
                refine hR.mono ?_
                rintro e W3 (⟨rfl, hJ3, hk3⟩ | ⟨rfl, hJx3⟩)
                · gi_wp2
                  go_roundw
                  case rel => exact ⟨j + 1, by omega, by go_num, by rw [hS.out, ← List.append_assoc]; exact hJ3, hn2.trans hk3.1⟩
                  case measure => simp [intOf]; omega
                · gi_wp2
                  refine bodyPost_ret (results_none rfl _ _ _) rfl ?_
                  exact ⟨⟨_, rfl⟩, .inr ⟨_, trivial, hJx3⟩⟩
            · obtain rfl : j = m := by omega
              gi_wp2
              go_roundw
              case rel => exact ⟨f + 1, by omega, by go_num, by rw [hP.out, ← List.append_assoc]; exact hJ2, hn2⟩
              case measure => simp [intOf]; omega
        · obtain rfl : f = m := by omega
          gi_wp2
          go_end0
          exact ⟨⟨_, rfl⟩, .inl ⟨_, rfl, hJs⟩⟩

end Go.Proofs.Ytikcpfpeoofppaa
