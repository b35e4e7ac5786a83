/- Contracts: what a deed does, of both. -/
import Derived.Test.YtikcpfpeoofppaaB
namespace Go.Proofs.Ytikcpfpeoofppaa
open Go.RowKit

/-- The levels as a value. -/
def levV (a b c d : Int) : Value := .agg #[.int .i64 a, .int .i64 b, .int .i64 c, .int .i64 d]

theorem keep3 {w : World} {o1 o2 o3 : Obj} : Below w.heap.size w (((w.alloc o1).alloc o2).alloc o3) :=
  (((Below.refl _ w).alloc (Nat.le_refl _) _).alloc (by simp) _).alloc (by simp; omega) _

set_option maxHeartbeats 1000000 in
theorem does_fill0 (v : Value) (t : List Int) (a b c d x : Int) (w : World) (hv : IntsAt w v t) (hk : 0 < t.length) (hX : t.getD 0 0 = x) :
    Calls Try.prog 55 #[v, .agg #[.int .i64 a, .int .i64 b, .int .i64 c, .int .i64 d], .agg #[.int .i64 1, .int .i64 0, .int .i64 0]] w fun e w' => e = .returned (levV x b c d) ∧ Below w.heap.size w w' := by
  obtain ⟨tb, off, cap, rfl, hc⟩ := ints_cell hv (by omega)
  have h1 := hc 0 hk
  rw [hX] at h1
  try simp only [Nat.add_zero] at h1
  have hlt : tb < w.heap.size := World.block_lt_of_cell? _ _ h1
  have h3 := keep_cell (keep3 (o1 := .cells #[.int .i64 a, .int .i64 b, .int .i64 c, .int .i64 d] 66) (o2 := .cells #[.int .i64 1, .int .i64 0, .int .i64 0] 43) (o3 := .cells #[.int .i64 0, .int .i64 0, .int .i64 0, .int .i64 0] 66)) h1
  clear hv hc hX
  go_enter Try.func55, Try.ntmps55
  go_wp2
  go_region
  all_goals go_wp2
  refine bodyPost_ret (v := levV x b c d) (by unfold levV; simp [results, Try.results55, go_sem]) rfl ⟨rfl, ?_⟩
  repeat (first | assumption | exact Below.refl _ _ | refine Below.setCell ?_ (by first | omega | (simp; done) | (simp; omega)) _ | refine Below.drew ?_ | refine Below.alloc ?_ (by first | omega | (simp; done) | (simp; omega)) _)
set_option maxHeartbeats 1000000 in
theorem does_empty1 (v : Value) (a b c d : Int) (w : World) :
    Calls Try.prog 55 #[v, .agg #[.int .i64 a, .int .i64 b, .int .i64 c, .int .i64 d], .agg #[.int .i64 2, .int .i64 0, .int .i64 1]] w fun e w' => e = .returned (levV a 0 c d) ∧ Below w.heap.size w w' := by
  go_enter Try.func55, Try.ntmps55
  go_wp2
  refine bodyPost_ret (v := levV a 0 c d) (by unfold levV; simp [results, Try.results55, go_sem]) rfl ⟨rfl, ?_⟩
  repeat (first | assumption | exact Below.refl _ _ | refine Below.setCell ?_ (by first | omega | (simp; done) | (simp; omega)) _ | refine Below.drew ?_ | refine Below.alloc ?_ (by first | omega | (simp; done) | (simp; omega)) _)
set_option maxHeartbeats 1000000 in
theorem does_pour01 (v : Value) (t : List Int) (a b c d x n : Int) (w : World) (hv : IntsAt w v t) (hk : 1 < t.length) (hp : 0 ≤ a ∧ a ≤ 12) (hq : 0 ≤ b ∧ b ≤ 12) (hx : 0 ≤ x ∧ x ≤ 12) (hX : t.getD 1 0 = x) (hn : n = min a (x - b)) :
    Calls Try.prog 55 #[v, .agg #[.int .i64 a, .int .i64 b, .int .i64 c, .int .i64 d], .agg #[.int .i64 3, .int .i64 0, .int .i64 1]] w fun e w' => e = .returned (levV (a - n) (b + n) c d) ∧ Below w.heap.size w w' := by
  obtain ⟨tb, off, cap, rfl, hc⟩ := ints_cell hv (by omega)
  have h1 := hc 1 hk
  rw [hX] at h1
  try simp only [Nat.add_zero] at h1
  have hlt : tb < w.heap.size := World.block_lt_of_cell? _ _ h1
  have h3 := keep_cell (keep3 (o1 := .cells #[.int .i64 a, .int .i64 b, .int .i64 c, .int .i64 d] 66) (o2 := .cells #[.int .i64 3, .int .i64 0, .int .i64 1] 43) (o3 := .cells #[.int .i64 0, .int .i64 0, .int .i64 0, .int .i64 0] 66)) h1
  clear hv hc hX
  by_cases hle : a ≤ x - b
  · have e : a = n := by omega
    clear hn
    subst e
    go_enter Try.func55, Try.ntmps55
    go_wp2
    go_region
    all_goals go_wp2
    refine bodyPost_ret (v := levV (a - a) (b + a) c d) (by unfold levV; simp [results, Try.results55, go_sem]) rfl ⟨rfl, ?_⟩
    repeat (first | assumption | exact Below.refl _ _ | refine Below.setCell ?_ (by first | omega | (simp; done) | (simp; omega)) _ | refine Below.drew ?_ | refine Below.alloc ?_ (by first | omega | (simp; done) | (simp; omega)) _)
  · have e : x - b = n := by omega
    clear hn
    subst e
    go_enter Try.func55, Try.ntmps55
    go_wp2
    go_region
    all_goals go_wp2
    refine bodyPost_ret (v := levV (a - (x - b)) (b + (x - b)) c d) (by unfold levV; simp [results, Try.results55, go_sem]) rfl ⟨rfl, ?_⟩
    repeat (first | assumption | exact Below.refl _ _ | refine Below.setCell ?_ (by first | omega | (simp; done) | (simp; omega)) _ | refine Below.drew ?_ | refine Below.alloc ?_ (by first | omega | (simp; done) | (simp; omega)) _)

end Go.Proofs.Ytikcpfpeoofppaa
