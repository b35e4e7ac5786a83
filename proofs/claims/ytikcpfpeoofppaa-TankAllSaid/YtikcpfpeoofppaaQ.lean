/- Contracts: After, Does (the program). -/
import Derived.Test.YtikcpfpeoofppaaP
namespace Go.Proofs.Ytikcpfpeoofppaa
open Go.RowKit

set_option maxHeartbeats 400000 in
theorem nothing_any (d : Deed) (a b : List Int) (w : World) :
    Calls Try.prog 75 #[deedV d, pad a, pad b] w fun e w' => (∃ u, e = .returned u) ∧ Below w.heap.size w w' := by
  unfold deedV pad levV
  go_enter Try.func75, Try.ntmps75
  go_wp2
  go_end0
  refine ⟨⟨_, rfl⟩, ?_⟩
  repeat (first | assumption | exact Below.refl _ _ | refine Below.setCell ?_ (by first | omega | (simp; done) | (simp; omega)) _ | refine Below.drew ?_ | refine Below.alloc ?_ (by first | omega | (simp; done) | (simp; omega)) _)

/-- What After and Does give. -/
def GivesA (t l : List Int) (ds : List Deed) (w : World) (e : Ending) (w' : World) : Prop := ∃ ov, e = .returned (.tuple #[ov, .int .i64 (runE t l ds)]) ∧ IntsAt w' ov (runV t l ds) ∧ Below w.heap.size w w'

theorem Kx.none {w w' : World} (h : Kx (fun _ => False) w w') : Below w.heap.size w w' := h.below (Nat.le_refl _) (fun _ h => h.elim)

theorem runA_any (v y x : Value) (t l : List Int) (ds : List Deed) (w : World) (hv : IntsAt w v t) (hy : IntsAt w y l) (hx : DeedsAt w x ds) :
    Calls Try.prog 74 #[v, y, x, .func (.func 75) #[] #[]] w (GivesA t l ds w) :=
  (run_any (fun _ => False) (fun _ _ => True) 75 #[] (enters_of Try.func75 (by kernel_rfl) rfl) v y x t l ds w w hv hy hx (Below.refl _ _) (fun _ h => h.elim) trivial (fun _ _ _ _ _ => trivial)
    (fun k W _ _ _ _ _ _ _ => (nothing_any _ _ _ W).mono fun _ _ ⟨h1, h2⟩ => ⟨h1, trivial, Kx.of_below h2⟩)).mono fun _ _ ⟨ov, h1, h2, h3, _⟩ => ⟨ov, h1, h2, h3.none⟩

set_option maxHeartbeats 400000 in
theorem tAfter_any (v y x : Value) (t l : List Int) (ds : List Deed) (w : World) (hv : IntsAt w v t) (hy : IntsAt w y l) (hx : DeedsAt w x ds) :
    Calls Try.prog 41 #[v, y, x] w (GivesA t l ds w) := by
  have C := Lib.hid (runA_any v y x t l ds w hv hy hx)
  obtain ⟨_, _, rfl, _⟩ := hv
  obtain ⟨_, _, rfl, _⟩ := hy
  obtain ⟨_, _, rfl, _⟩ := hx
  go_enter Try.func41, Try.ntmps41
  go_wp2_with fail
  refine C.out.mono ?_
  rintro e w1 ⟨ov, rfl, hov, hb1⟩
  have O := Lib.hid hov
  clear hov C
  generalize hre : runE t l ds = re at *
  go_wp2
  refine bodyPost_ret (v := .tuple #[ov, .int .i64 re]) (by simp [results, Try.results41, go_sem]) rfl ⟨ov, by rw [hre], O.out, hb1⟩

theorem deeds_one {w : World} {n : Nat} (d : Deed) (hn : w.heap.size = n) : DeedsAt (w.alloc (.cells #[.int .i64 d.1, .int .i64 d.2.1, .int .i64 d.2.2] 43)) (.slice (some ⟨n, 0, none⟩) 1 1) [d] := by
  subst hn
  refine ⟨some ⟨w.heap.size, 0, none⟩, 1, rfl, by simp, fun _ => ⟨w.heap.size, 0, rfl, fun j hj => ?_⟩⟩
  simp at hj
  subst hj
  refine ⟨?_, ?_, ?_⟩ <;> simp

set_option maxHeartbeats 400000 in
theorem tDoesP_any (v y : Value) (t l : List Int) (d : Deed) (w : World) (hv : IntsAt w v t) (hy : IntsAt w y l) :
    Calls Try.prog 36 #[v, y, deedV d] w (GivesA t l [d] w) := by
  obtain ⟨d1, d2, d3⟩ := d
  have hB1 := (Below.refl w.heap.size w).alloc (Nat.le_refl _) (.cells #[.int .i64 d1, .int .i64 d2, .int .i64 d3] 43)
  have hB2 := hB1.alloc (by simp) (.cells #[.int .i64 d1, .int .i64 d2, .int .i64 d3] 43)
  have C := Lib.hid (runA_any v y _ t l [(d1, d2, d3)] _ (hv.below hB2) (hy.below hB2) (deeds_one (d1, d2, d3) (World.size_alloc _ _)))
  obtain ⟨_, _, rfl, _⟩ := hv
  obtain ⟨_, _, rfl, _⟩ := hy
  unfold deedV
  go_enter Try.func36, Try.ntmps36
  go_wp2_with fail
  refine C.out.mono ?_
  rintro e w1 ⟨ov, rfl, hov, hb1⟩
  have O := Lib.hid hov
  clear hov C
  generalize hre : runE t l [(d1, d2, d3)] = re at *
  go_wp2
  refine bodyPost_ret (v := .tuple #[ov, .int .i64 re]) (by simp [results, Try.results36, go_sem]) rfl ⟨ov, by rw [hre], O.out, hB2.trans (hb1.mono hB2.size)⟩

end Go.Proofs.Ytikcpfpeoofppaa
