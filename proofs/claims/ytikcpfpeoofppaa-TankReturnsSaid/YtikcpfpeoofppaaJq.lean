/- Contracts: going over all deeds, by rounds that keep the lists of numbers and their variables. -/
import Derived.Test.YtikcpfpeoofppaaK
import Derived.RangeFuncBox
import Derived.RangeFuncBound
import Derived.RangeFuncNested
import Derived.RangeFuncLeaves
import Derived.Shelf.Abstract
import Derived.WalkKit
import Derived.OwnWalkIn
import Derived.TacticsInMore
import Derived.LoopNIn
import Derived.LoopIn
import Derived.Maps.AppendAt
import Derived.KernelRfl
namespace Go.Proofs.Ytikcpfpeoofppaa
open Go.RowKit Go.Shelf

attribute [local go_sem] Oper.semAt_some


/-- What a round keeps: each block of ints, and each variable of a list of ints. -/
def Kq (W W' : World) : Prop := ∀ (b : Nat) cur e fr, (e = 3 ∨ e = 29) → W.heap[b]? = some (Obj.cells cur e fr) → W'.heap[b]? = some (Obj.cells cur e fr)
theorem Kq.refl (W : World) : Kq W W := fun _ _ _ _ _ h => h
theorem Kq.trans {A B C : World} (h : Kq A B) (k : Kq B C) : Kq A C := fun b cur e fr he x => k b cur e fr he (h b cur e fr he x)
theorem Kq.put (W : World) (l : Nat) (o o' : Obj) (h : W.heap[l]? = some o) (hc : o.isCells = false) : Kq W (W.putObj l o') := fun b cur e fr _ x => by
  have hne : b ≠ l := by
    rintro rfl
    rw [h] at x
    cases x
    simp [Obj.isCells] at hc
  exact (World.putObj_heap_other hne).trans x
theorem Kq.below {W W' : World} (h : Below W.heap.size W W') : Kq W W' := fun b _ _ _ _ e => (h.block b (Array.getElem?_eq_some_iff.1 e).1).trans e

set_option maxRecDepth 100000 in
set_option maxHeartbeats 4000000 in
/-- The closure of deeds. -/
theorem deeds1_q (F : Fence) (n : Nat) (h7 : F.fn 88) (hro : F.round = none) (hn : 1 ≤ n) (l Bs : Nat) (a : Option Addr) (m cap : Nat) (hm : m ≤ 4) (J Jx : List Deed → World → Prop)
    (hY : ∀ pre x W, IsD m x → J pre W → pre.length < 24 → YieldAt F (n - 1) Try.prog l #[deedV x] W fun e W' =>
      (e = .returned (.bool true) ∧ J (pre ++ [x]) W' ∧ Kq W W') ∨ (e = .returned (.bool false) ∧ Jx (pre ++ [x]) W'))
    (W : World) (hJ : AbidesFrom W.heap.size J) (hBs : W.heap[Bs]? = some (.cells #[.slice a m cap] 29 (0, 0))) (h0 : J [] W) :
    CallsIn F n Try.prog 88 #[.func (.yield l) #[] #[], .pointer (some ⟨Bs, 0, none⟩)] W fun e W' => (∃ v, e = .returned v) ∧
      ((∃ ys, ys = deedsL m ∧ J ys W') ∨ (∃ pre, True ∧ Jx pre W')) := by
  have h0' : J [] (W.alloc (.cells #[.int .i64 1, .int .i64 2] 3)) := hJ [] W _ none h0 (World.grownBy_alloc W _ none) (fun r e => by cases e)
  have hb0 : (W.alloc (.cells #[.int .i64 1, .int .i64 2] 3)).heap[Bs]? = some (.cells #[.slice a m cap] 29 (0, 0)) := (Below.heap_alloc _ _ _ (Array.getElem?_eq_some_iff.1 hBs).1).trans hBs
  have hbc := Boxed.cell hb0
  have hlit : (W.alloc (.cells #[.int .i64 1, .int .i64 2] 3)).heap[W.heap.size]? = some (.cells #[.int .i64 1, .int .i64 2] 3 (0, 0)) := World.alloc_heap_new W _
  refine callsIn_of_wp Try.func88 rfl h7 ?_ hro
  simp only [Try.ntmps88, List.size_toArray, List.length_cons, List.length_nil, Nat.reduceAdd, Nat.reduceSub, Array.replicate_succ, Array.replicate_zero, List.push_toArray, List.append_toArray, List.nil_append, List.cons_append]
  clear hJ
  gi_wp2
  gi_loopw [10] (fun i wr => ∃ k : Nat, k ≤ 2 ∧ i = .int .i64 k ∧ J (preF k m) wr ∧ wr.heap[Bs]? = some (.cells #[.slice a m cap] 29 (0, 0)) ∧ wr.heap[W.heap.size]? = some (.cells #[.int .i64 1, .int .i64 2] 3 (0, 0))) (fun i _ => 2 - (intOf i).toNat)
  case atStart => exact ⟨0, by omega, rfl, h0', hb0, hlit⟩
  case round =>
    obtain ⟨k, hk, rfl, hJs, hnx, hl2⟩ := hrel
    obtain ⟨wo, rfl⟩ : ∃ wo : World, wo = wr := ⟨_, rfl⟩
    have hb1 := Boxed.cell hnx
    by_cases hlt : k < 2
    · have hcx : wo.cell? ⟨W.heap.size, k, none⟩ = some (.int .i64 ((k : Int) + 1)) := by
        have hk2 : k = 0 ∨ k = 1 := by omega
        rcases hk2 with rfl | rfl <;> simp [World.cell?, hl2]
      have hP := Lib.hid (preF_snoc k m)
      gi_wp2
      rw [show decide ((k : Int) < 2) = true from decide_eq_true (by omega)]
      gi_loopw [16] (fun i wr => ∃ j : Nat, j ≤ m ∧ i = .int .i64 j ∧ J (preF k m ++ fillsL ((k : Int) + 1) j) wr ∧ wr.heap[Bs]? = some (.cells #[.slice a m cap] 29 (0, 0)) ∧ wr.heap[W.heap.size]? = some (.cells #[.int .i64 1, .int .i64 2] 3 (0, 0))) (fun i _ => m - (intOf i).toNat)
      case atStart => exact ⟨0, by omega, rfl, by simpa [fillsL] using hJs, hnx, hl2⟩
      case round =>
        obtain ⟨j, hj, rfl, hJ2, hn2, hl3⟩ := hrel
        have hb2 := Boxed.cell hn2
        by_cases hjm : j < m
        · have hS := Lib.hid (fillsL_snoc ((k : Int) + 1) j)
          obtain ⟨fn, tmps, assign, body, hy, hR⟩ := hY _ ((k : Int) + 1, 0, (j : Int)) wr (.inl ⟨by simp only; omega, rfl, by simp only; omega, by simp only; omega⟩) hJ2 (by rw [List.length_append, preF_len, fillsL_len]; have : k * m ≤ 1 * 4 := Nat.mul_le_mul (by omega) hm; omega)
          simp only [deedV] at hy
          gi_wp2
          refine hR.mono ?_
          rintro e W3 (⟨rfl, hJ3, hk3⟩ | ⟨rfl, hJx3⟩)
          · gi_wp2
            go_roundw
            case rel => exact ⟨j + 1, by omega, by go_num, by rw [hS.out, ← List.append_assoc]; exact hJ3, hk3 _ _ _ _ (.inr rfl) hn2, hk3 _ _ _ _ (.inl rfl) hl3⟩
            case measure => simp [intOf]; omega
          · gi_wp2
            refine bodyPost_ret (results_none rfl _ _ _) rfl ?_
            exact ⟨⟨_, rfl⟩, .inr ⟨_, trivial, hJx3⟩⟩
        · obtain rfl : j = m := by omega
          gi_wp2
          go_roundw
          case rel => exact ⟨k + 1, by omega, by go_num, by rw [hP.out]; exact hJ2, hn2, hl3⟩
          case measure => simp [intOf]; omega
    · have hk2 : k = 2 := by omega
      rw [hk2] at hJs
      clear hk2
      gi_wp2
      gi_loopw [29] (fun i wr => ∃ f : Nat, f ≤ m ∧ i = .int .i64 f ∧ J (preF 2 m ++ preP m f) wr ∧ wr.heap[Bs]? = some (.cells #[.slice a m cap] 29 (0, 0))) (fun i _ => m - (intOf i).toNat)
      case atStart => exact ⟨0, by omega, rfl, by simpa [preP] using hJs, hnx⟩
      case round =>
        clear hnx hl2 hb1 hJs
        obtain ⟨f, hf, rfl, hJs, hnx⟩ := hrel
        obtain ⟨wp, rfl⟩ : ∃ wp : World, wp = wr := ⟨_, rfl⟩
        have hb1 := Boxed.cell hnx
        by_cases hlt : f < m
        · have hP := Lib.hid (preP_snoc m f)
          gi_wp2
          try rw [show decide ((f : Int) < (m : Int)) = true from decide_eq_true (by omega)]
          gi_loopw [34] (fun i wr => ∃ j : Nat, j ≤ m ∧ i = .int .i64 j ∧ J (preF 2 m ++ preP m f ++ pF f j) wr ∧ wr.heap[Bs]? = some (.cells #[.slice a m cap] 29 (0, 0))) (fun i _ => m - (intOf i).toNat)
          case atStart => exact ⟨0, by omega, rfl, by simpa [pF] using hJs, hnx⟩
          case round =>
            obtain ⟨j, hj, rfl, hJ2, hn2⟩ := hrel
            have hb2 := Boxed.cell hn2
            by_cases hjm : j < m
            · by_cases hjf : j = f
              · subst hjf
                have hS := Lib.hid (pF_same j)
                gi_wp2
                refine ⟨(fun g hg => nomatch hg), ?_⟩
                gi_wp2
                go_roundw
                case rel => exact ⟨j + 1, by omega, by go_num, by rw [hS.out]; exact hJ2, hn2⟩
                case measure => simp [intOf]; omega
              · have hS := Lib.hid (pF_snoc hjf)
                have hne : (f : Int) ≠ (j : Int) := by omega
                obtain ⟨fn, tmps, assign, body, hy, hR⟩ := hY _ (3, (f : Int), (j : Int)) wr (.inr ⟨rfl, by simp only; omega, by simp only; omega, by simp only; omega, by simp only; omega, by simp only; omega⟩) hJ2 (by
                  have h1 := preP_len m f
                  have h2 := pF_len f j
                  have h3 : f * m ≤ 3 * 4 := Nat.mul_le_mul (by omega) hm
                  rw [List.length_append, List.length_append, preF_len]; omega)
                simp only [deedV] at hy
                gi_wp2
                refine hR.mono ?_
                rintro e W3 (⟨rfl, hJ3, hk3⟩ | ⟨rfl, hJx3⟩)
                · gi_wp2
                  go_roundw
                  case rel => exact ⟨j + 1, by omega, by go_num, by rw [hS.out, ← List.append_assoc]; exact hJ3, hk3 _ _ _ _ (.inr rfl) hn2⟩
                  case measure => simp [intOf]; omega
                · gi_wp2
                  refine bodyPost_ret (results_none rfl _ _ _) rfl ?_
                  exact ⟨⟨_, rfl⟩, .inr ⟨_, trivial, hJx3⟩⟩
            · obtain rfl : j = m := by omega
              gi_wp2
              go_roundw
              case rel => exact ⟨f + 1, by omega, by go_num, by rw [hP.out, ← List.append_assoc]; exact hJ2, hn2⟩
              case measure => simp [intOf]; omega
        · obtain rfl : f = m := by omega
          gi_wp2
          go_end0
          exact ⟨⟨_, rfl⟩, .inl ⟨_, rfl, hJs⟩⟩

/-- A deed of m tanks. -/
abbrev DeedOf (m : Nat) := { d : Deed // IsD m d }

theorem deeds_stops_q (F : Fence) (n : Nat) (h7 : F.fn 88) (hro : F.round = none) (hn : 1 ≤ n) (Bs : Nat) (a : Option Addr) (m cap : Nat) (hm : m ≤ 4) (w : World)
    (hc : w.heap[Bs]? = some (.cells #[.slice a m cap] 29 (0, 0))) :
    SeqStopsK F n Try.prog 88 #[.pointer (some ⟨Bs, 0, none⟩)] (fun x : DeedOf m => #[deedV x.1]) Kq (fun ys => ys.map Subtype.val = deedsL m) (fun _ => True) 24 w := fun l J Jx W hW hJ hJx hY h0 => by
  refine (deeds1_q F n h7 hro hn l Bs a m cap hm (fun ds W => ∃ pre : List (DeedOf m), pre.map Subtype.val = ds ∧ J pre W) (fun ds W => ∃ pre : List (DeedOf m), pre.map Subtype.val = ds ∧ Jx pre W) ?_ W ?_ ((hW.block Bs (Array.getElem?_eq_some_iff.1 hc).1).trans hc) ⟨[], rfl, h0⟩).mono ?_
  · rintro _ x W1 hx ⟨pre, rfl, hj⟩ hl
    refine (hY pre ⟨x, hx⟩ W1 hj (by simpa using hl)).mono ?_
    rintro e w' (⟨h1, h2, h3⟩ | ⟨h1, h2⟩)
    · exact .inl ⟨h1, ⟨_, by simp, h2⟩, h3⟩
    · exact .inr ⟨h1, ⟨_, by simp, h2⟩⟩
  · rintro s A B row ⟨pre, h1, h2⟩ hg hr
    exact ⟨pre, h1, hJ pre A B row h2 hg hr⟩
  · rintro e W' ⟨hv, ⟨ys, rfl, pre, h1, h2⟩ | ⟨_, _, pre, _, h2⟩⟩
    · exact ⟨hv, .inl ⟨pre, h1, h2⟩⟩
    · exact ⟨hv, .inr ⟨pre, trivial, h2⟩⟩

end Go.Proofs.Ytikcpfpeoofppaa
