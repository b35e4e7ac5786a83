/- Contracts: Water of the program. -/
import Derived.Test.YtikcpfpeoofppaaU
import Derived.Test.YtikcpfpeoofppaaW
namespace Go.Proofs.Ytikcpfpeoofppaa
open Go.RowKit

theorem Kx.blow {w w0 w' : World} {B : Nat} (h : Kx (Two w.heap.size (w.heap.size + 1)) w0 w') (hb : Below w.heap.size w w0) (hB : B = w.heap.size) : Below B w w' := by
  subst hB
  exact hb.trans (h.below hb.size (fun k hk => by unfold Two at hk; omega))

/-- Both boxes. -/
def Boxes (B6 B7 : Nat) (t l : List Int) (ds : List Deed) (k : Nat) (W : World) : Prop := NumAt W B6 (inK t l ds k) ∧ NumAt W B7 (outK t l ds k)

theorem water_step (B6 B7 : Nat) (hne : B6 ≠ B7) (t l : List Int) (ds : List Deed) (k : Nat) (W : World) (hk : k < ds.length) (hre : runE t l ds = 0) (h : Boxes B6 B7 t l ds k W) :
    Calls Try.prog 79 #[deedV (ds.getD k noDeed), pad (lvK t l ds k), pad (lvK t l ds (k + 1)), .pointer (some ⟨B6, 0, none⟩), .pointer (some ⟨B7, 0, none⟩)] W fun e W' => (∃ u, e = .returned u) ∧ Boxes B6 B7 t l ds (k + 1) W' ∧ Kx (Two B6 B7) W W' := by
  obtain ⟨ht, hL, hD⟩ := runE_zero hre
  have h200 := ((areD_iff _ _).1 hD).1
  obtain ⟨_, s2, s3, s4, s5⟩ := lv_sum ht hL hD k (by omega)
  have hl0 := lvK_lev ht hL hD k (by omega)
  have hd := isD_at hD hk
  rw [lvK_succ t l ds hk]
  refine (water_any B6 B7 (inK t l ds k) (outK t l ds k) t (lvK t l ds k) (ds.getD k noDeed) W h.1 h.2 hne (by omega) (by omega) ht hl0 hd).mono ?_
  rintro e W' ⟨h1, h2, h3, h4⟩
  exact ⟨h1, ⟨h2, h3⟩, h4⟩

set_option maxRecDepth 100000 in
set_option maxHeartbeats 2000000 in
theorem tWater_any (v y x : Value) (t l : List Int) (ds : List Deed) (w : World) (hv : IntsAt w v t) (hy : IntsAt w y l) (hx : DeedsAt w x ds) :
    Calls Try.prog 43 #[v, y, x] w fun e w' => e = .returned (.tuple #[.int .i64 (wIn t l ds), .int .i64 (wOut t l ds), .int .i64 (runE t l ds)]) ∧ Below w.heap.size w w' := by
  have hB1 := (Below.refl w.heap.size w).alloc (Nat.le_refl _) (.cells #[.int .i64 0] 3)
  have hB2 := hB1.alloc (by simp) (.cells #[.int .i64 0] 3)
  have n6 : NumAt ((w.alloc (.cells #[.int .i64 0] 3)).alloc (.cells #[.int .i64 0] 3)) w.heap.size 0 := ⟨(Below.heap_alloc _ _ _ (by simp)).trans (World.alloc_heap_new w _)⟩
  have n7 : NumAt ((w.alloc (.cells #[.int .i64 0] 3)).alloc (.cells #[.int .i64 0] 3)) (w.heap.size + 1) 0 := ⟨by have := World.alloc_heap_new (w.alloc (.cells #[.int .i64 0] 3)) (.cells #[.int .i64 0] 3); rwa [World.size_alloc] at this⟩
  have C := Lib.hid (run_any (Two w.heap.size (w.heap.size + 1)) (Boxes w.heap.size (w.heap.size + 1) t l ds) 79 #[.pointer (some ⟨w.heap.size, 0, none⟩), .pointer (some ⟨w.heap.size + 1, 0, none⟩)]
    (enters_of Try.func79 (by kernel_rfl) rfl) v y x t l ds w _ hv hy hx hB2 (fun k hk => by unfold Two at hk; simp; omega) ⟨n6, n7⟩
    (fun k W W' hI hb => ⟨⟨(hb _ (.inl rfl)).trans hI.1.blk⟩, ⟨(hb _ (.inr rfl)).trans hI.2.blk⟩⟩)
    (fun k W hk hre _ _ _ _ hI => water_step _ _ (by omega) t l ds k W hk hre hI))
  have WI := Lib.hid (show wIn t l ds = if runE t l ds = 0 then inK t l ds ds.length else 0 from rfl)
  have WO := Lib.hid (show wOut t l ds = if runE t l ds = 0 then outK t l ds ds.length else 0 from rfl)
  obtain ⟨_, _, rfl, _⟩ := hv
  obtain ⟨_, _, rfl, _⟩ := hy
  obtain ⟨_, _, rfl, _⟩ := hx
  clear n6 n7
  go_enter Try.func43, Try.ntmps43
  go_wp2_with fail
  refine C.out.mono ?_
  rintro e w1 ⟨ov, rfl, _, hK, hi0, hi1⟩
  have hB3 : Below w.heap.size w w1 := hK.blow hB2 rfl
  have hN : NumAt w1 w.heap.size (wIn t l ds) ∧ NumAt w1 (w.heap.size + 1) (wOut t l ds) := by
    rw [WI.out, WO.out]
    by_cases hre : runE t l ds = 0
    · rw [if_pos hre, if_pos hre]
      exact hi0 hre
    · rw [if_neg hre, if_neg hre]
      exact hi1 hre
  clear hi0 hi1 WI WO C hK
  generalize hwi : wIn t l ds = wi at *
  generalize hwo : wOut t l ds = wo at *
  generalize hre : runE t l ds = re at *
  have HWI := Lib.hid hwi
  have HWO := Lib.hid hwo
  have HRE := Lib.hid hre
  clear hwi hwo hre
  obtain ⟨h6, h7⟩ := hN
  have c6 := h6.cell
  have c7 := h7.cell
  have f6 := h6.frozen
  have f7 := h7.frozen
  go_wp2
  go_region
  all_goals go_wp2
  all_goals refine bodyPost_ret (v := .tuple #[.int .i64 wi, .int .i64 wo, .int .i64 re]) (by simp [results, Try.results43, go_sem, c6, c7, f6, f7]) rfl ⟨by rw [HWI.out, HWO.out, HRE.out], ?_⟩
  all_goals (repeat (first | assumption | exact Below.refl _ _ | refine Below.setCell ?_ (by first | omega | (simp; done) | (simp; omega)) _ | refine Below.drew ?_))

end Go.Proofs.Ytikcpfpeoofppaa
