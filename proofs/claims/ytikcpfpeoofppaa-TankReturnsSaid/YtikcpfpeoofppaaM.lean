/- Contracts: levels out of a list, and a list out of levels (the program). -/
import Derived.Test.YtikcpfpeoofppaaL
import Derived.Lib.BufferMore
namespace Go.Proofs.Ytikcpfpeoofppaa
open Go.RowKit

set_option maxRecDepth 100000 in
set_option maxHeartbeats 1000000 in
theorem clone_any (v : Value) (l : List Int) (w : World) (hv : IntsAt w v l) (h0 : 0 < l.length) (h4 : l.length ≤ 4) :
    Calls Try.prog 92 #[v] w (GivesI l w) := by
  obtain ⟨lb, lo, lc, rfl, hic⟩ := ints_cell hv h0
  have NW := Lib.hid (ints_news hic (.cells #[] 3))
  obtain ⟨j0, hj0, hy0, hy1, hy2⟩ := info_parts Try.infoInt
  have hown0 := World.ownsRow_made (base := w.heap.size) (e := 3) (size := 1) w #[] 0 (Nat.le_refl _) (by decide) rfl
  have hnil : ∀ W, (binOp .eql 29 (.slice (some ⟨lb, lo, none⟩) l.length lc) (.slice none 0 0)).run Try.prog W = .ok (.bool false) W := fun W => Lib.run_eql_slice_some_nil W _ _ _ Try.underlying29
  clear hic hv
  go_enter Try.func92, Try.ntmps92
  go_wp2_with (at_builtin; go_loud (refine wpList_append_own _ rfl (.tmp 5) (.tmp 6) 29 rfl w.heap.size 3 j0 (.int .i64 0) 1 8 Try.underlying29 hj0 hy0 hy1 hy2 rfl (by decide) _ _ _ rfl hown0 ⟨lb, lo, none⟩ l.length lc (l.map (Value.int .i64)) rfl (by simp) NW.out (int_vals_one l) (by unfold maxLen; omega) (by omega) (by simp) ?_))
  intro ov w2 hov0 hgr0 _
  have hb2 := clone_below rfl hgr0
  obtain ⟨g, cap, rfl, O, hg⟩ := own_form (by simpa using hov0) h0
  have hgb := O.base
  clear hov0 hgr0 hown0 NW
  go_wp2
  go_ret
  exact ⟨_, rfl, O.ints (by omega), hb2, fun i hi => by simp [Value.ownBlock] at hi; omega⟩

set_option maxHeartbeats 1000000 in
theorem list_any (v : Value) (t l : List Int) (w : World) (hv : IntsAt w v t) (h2 : 2 ≤ t.length) (h4 : t.length ≤ 4) (hl : l.length = t.length) :
    Calls Try.prog 81 #[pad l, v] w (GivesI l w) := by
  obtain ⟨a, cap, rfl, _⟩ := hv
  have hB0 := (Below.refl w.heap.size w).alloc (Nat.le_refl _) (.cells #[.int .i64 (l.getD 0 0), .int .i64 (l.getD 1 0), .int .i64 (l.getD 2 0), .int .i64 (l.getD 3 0)] 66)
  have hI : IntsAt (w.alloc (.cells #[.int .i64 (l.getD 0 0), .int .i64 (l.getD 1 0), .int .i64 (l.getD 2 0), .int .i64 (l.getD 3 0)] 66)) (.slice (some ⟨w.heap.size, 0, none⟩) t.length 4) l := by
    rw [← hl]
    refine ⟨some ⟨w.heap.size, 0, none⟩, 4, rfl, by omega, fun _ => ⟨w.heap.size, 0, rfl, fun j hj => ?_⟩⟩
    have hc : j = 0 ∨ j = 1 ∨ j = 2 ∨ j = 3 := by omega
    have hb := World.alloc_heap_new w (.cells #[.int .i64 (l.getD 0 0), .int .i64 (l.getD 1 0), .int .i64 (l.getD 2 0), .int .i64 (l.getD 3 0)] 66)
    rcases hc with rfl | rfl | rfl | rfl <;> (simp only [World.cell?, hb]; rfl)
  have C := Lib.hid (clone_any _ l _ hI (by omega) (by omega))
  have k1 : (0 : Int) ≤ (t.length : Int) := by omega
  have k2 : (t.length : Int) ≤ 4 := by omega
  clear hI hl
  unfold pad levV
  generalize l.getD 0 0 = x0 at *
  generalize l.getD 1 0 = x1 at *
  generalize l.getD 2 0 = x2 at *
  generalize l.getD 3 0 = x3 at *
  go_enter Try.func81, Try.ntmps81
  go_wp2_with fail
  refine C.out.mono ?_
  rintro e w1 ⟨ov, rfl, hov, hb1, hob⟩
  have O := Lib.hid hov
  have B := Lib.hid (show ∀ k, ov.ownBlock = some k → w.heap.size ≤ k from fun k hk => by have := hob k hk; simp at this; omega)
  clear hov hob
  go_wp2
  go_ret
  exact ⟨_, rfl, O.out, hB0.trans (hb1.mono (by simp)), B.out⟩

end Go.Proofs.Ytikcpfpeoofppaa
