/- Contract: Seen of no post. -/
import Derived.Test.YtdfkaijeppdhaaaGreatDoorFm
namespace Go.Proofs.YtdfkaijeppdhaaaGreatDoor
open Go.RowKit Go.Shelf

def ZeroPost (w : World) (e : Ending) (w' : World) : Prop := e = .returned (.agg #[.int .i64 0, .int .i64 0, .int .i64 0, .int .i64 0]) ∧ Below w.heap.size w w'
set_option maxRecDepth 100000 in
set_option maxHeartbeats 4000000 in
theorem seen_none (v : Value) (w : World) (h : NoPost w v) : Calls Tryz.prog 21 #[v] w (ZeroPost w) := by
  obtain ⟨w2, hw2⟩ : ∃ w2, w2 = (w.alloc (.cells #[.int .i64 0, .int .i64 0, .int .i64 0, .int .i64 0] 34)).alloc (.cells #[.int .i64 0, .int .i64 0, .int .i64 0, .int .i64 0] 34) := ⟨_, rfl⟩
  have hb2 : Below w.heap.size w w2 := by rw [hw2]; exact ((Below.refl _ w).alloc (Nat.le_refl _) _).alloc (by simp) _
  have HN := Lib.hid (none_no v w2 (h.below hb2))
  have h1 : w2.heap[w.heap.size + 1]? = some (.cells #[.int .i64 0, .int .i64 0, .int .i64 0, .int .i64 0] 34 (0, 0)) := by
    have := World.alloc_heap_new (w.alloc (.cells #[.int .i64 0, .int .i64 0, .int .i64 0, .int .i64 0] 34)) (.cells #[.int .i64 0, .int .i64 0, .int .i64 0, .int .i64 0] 34)
    rw [World.size_alloc] at this
    rw [hw2]; exact this
  have h0 : w2.heap[w.heap.size]? = some (.cells #[.int .i64 0, .int .i64 0, .int .i64 0, .int .i64 0] 34 (0, 0)) := by
    rw [hw2]; exact (Below.heap_alloc _ _ _ (by simp)).trans (World.alloc_heap_new w _)
  have H1 := Lib.hid h1
  have H0 := Lib.hid h0
  have HB2 := Lib.hid hb2
  have HW2 := Lib.hid hw2
  clear h h1 h0 hb2 hw2
  go_enter Tryz.func21, Tryz.ntmps21
  go_wp2_with fail
  rw [← HW2.out]
  go_loopw [5] (fun i wr => ∃ k : Nat, k ≤ 4 ∧ i = .int .i64 k ∧ wr = w2) (fun i _ => 4 - (intOf i).toNat)
  case atStart => exact ⟨0, Nat.zero_le _, rfl, rfl⟩
  case round =>
    obtain ⟨k, hk, rfl, rfl⟩ := hrel
    by_cases hlt : k < 4
    · have hlt2 : (k : Int) < 4 := by omega
      go_wp2_with fail
      refine HN.out.mono ?_
      rintro e w3 ⟨rfl, rfl⟩
      go_wp2
      go_roundw
      case rel => exact ⟨k + 1, by omega, by go_num, by first | trivial | rfl⟩
      case measure => simp [intOf]; omega
    · have e : k = 4 := by omega
      subst e
      have r0 := heap_cell (j := 0) H0.out rfl
      have r1 := heap_cell (j := 1) H0.out rfl
      have r2 := heap_cell (j := 2) H0.out rfl
      have r3 := heap_cell (j := 3) H0.out rfl
      have g0 : ∀ j, wr.frozen? ⟨w.heap.size, j, none⟩ = false := fun j => by have h9 := H0.out; simp [World.frozen?, h9]
      have y0 : wr.cell? ⟨w.heap.size + 1, 0, none⟩ = some (.int .i64 0) := heap_cell (j := 0) H1.out rfl
      have y1 : wr.cell? ⟨w.heap.size + 1, 1, none⟩ = some (.int .i64 0) := heap_cell (j := 1) H1.out rfl
      have y2 : wr.cell? ⟨w.heap.size + 1, 2, none⟩ = some (.int .i64 0) := heap_cell (j := 2) H1.out rfl
      have y3 : wr.cell? ⟨w.heap.size + 1, 3, none⟩ = some (.int .i64 0) := heap_cell (j := 3) H1.out rfl
      go_wp2
      refine bodyPost_ret (v := .agg #[.int .i64 0, .int .i64 0, .int .i64 0, .int .i64 0]) (by simp [results, Tryz.results21, go_sem, r0, r1, r2, r3]) rfl ⟨rfl, ?_⟩
      exact below_four HB2.out (Nat.le_refl _) _ _ _ _
end Go.Proofs.YtdfkaijeppdhaaaGreatDoor
