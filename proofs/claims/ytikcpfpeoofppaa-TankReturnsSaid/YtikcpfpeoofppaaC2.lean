/- Contracts: what a deed does (the other deeds). -/
import Derived.Test.YtikcpfpeoofppaaC
namespace Go.Proofs.Ytikcpfpeoofppaa
open Go.RowKit

set_option maxHeartbeats 1000000 in
theorem does_fill1 (v : Value) (t : List Int) (a b c d x : Int) (w : World) (hv : IntsAt w v t) (hk : 1 < t.length) (hX : t.getD 1 0 = x) :
    Calls Try.prog 55 #[v, .agg #[.int .i64 a, .int .i64 b, .int .i64 c, .int .i64 d], .agg #[.int .i64 1, .int .i64 0, .int .i64 1]] w fun e w' => e = .returned (levV a x c d) ∧ Below w.heap.size w w' := by
  obtain ⟨tb, off, cap, rfl, hc⟩ := ints_cell hv (by omega)
  have h1 := hc 1 hk
  rw [hX] at h1
  try simp only [Nat.add_zero] at h1
  have hlt : tb < w.heap.size := World.block_lt_of_cell? _ _ h1
  have h3 := keep_cell (keep3 (o1 := .cells #[.int .i64 a, .int .i64 b, .int .i64 c, .int .i64 d] 66) (o2 := .cells #[.int .i64 1, .int .i64 0, .int .i64 1] 43) (o3 := .cells #[.int .i64 0, .int .i64 0, .int .i64 0, .int .i64 0] 66)) h1
  clear hv hc hX
  go_enter Try.func55, Try.ntmps55
  go_wp2
  go_region
  all_goals go_wp2
  refine bodyPost_ret (v := levV a x c d) (by unfold levV; simp [results, Try.results55, go_sem]) rfl ⟨rfl, ?_⟩
  repeat (first | assumption | exact Below.refl _ _ | refine Below.setCell ?_ (by first | omega | (simp; done) | (simp; omega)) _ | refine Below.drew ?_ | refine Below.alloc ?_ (by first | omega | (simp; done) | (simp; omega)) _)
set_option maxHeartbeats 1000000 in
theorem does_fill2 (v : Value) (t : List Int) (a b c d x : Int) (w : World) (hv : IntsAt w v t) (hk : 2 < t.length) (hX : t.getD 2 0 = x) :
    Calls Try.prog 55 #[v, .agg #[.int .i64 a, .int .i64 b, .int .i64 c, .int .i64 d], .agg #[.int .i64 1, .int .i64 0, .int .i64 2]] w fun e w' => e = .returned (levV a b x d) ∧ Below w.heap.size w w' := by
  obtain ⟨tb, off, cap, rfl, hc⟩ := ints_cell hv (by omega)
  have h1 := hc 2 hk
  rw [hX] at h1
  try simp only [Nat.add_zero] at h1
  have hlt : tb < w.heap.size := World.block_lt_of_cell? _ _ h1
  have h3 := keep_cell (keep3 (o1 := .cells #[.int .i64 a, .int .i64 b, .int .i64 c, .int .i64 d] 66) (o2 := .cells #[.int .i64 1, .int .i64 0, .int .i64 2] 43) (o3 := .cells #[.int .i64 0, .int .i64 0, .int .i64 0, .int .i64 0] 66)) h1
  clear hv hc hX
  go_enter Try.func55, Try.ntmps55
  go_wp2
  go_region
  all_goals go_wp2
  refine bodyPost_ret (v := levV a b x d) (by unfold levV; simp [results, Try.results55, go_sem]) rfl ⟨rfl, ?_⟩
  repeat (first | assumption | exact Below.refl _ _ | refine Below.setCell ?_ (by first | omega | (simp; done) | (simp; omega)) _ | refine Below.drew ?_ | refine Below.alloc ?_ (by first | omega | (simp; done) | (simp; omega)) _)
set_option maxHeartbeats 1000000 in
theorem does_fill3 (v : Value) (t : List Int) (a b c d x : Int) (w : World) (hv : IntsAt w v t) (hk : 3 < t.length) (hX : t.getD 3 0 = x) :
    Calls Try.prog 55 #[v, .agg #[.int .i64 a, .int .i64 b, .int .i64 c, .int .i64 d], .agg #[.int .i64 1, .int .i64 0, .int .i64 3]] w fun e w' => e = .returned (levV a b c x) ∧ Below w.heap.size w w' := by
  obtain ⟨tb, off, cap, rfl, hc⟩ := ints_cell hv (by omega)
  have h1 := hc 3 hk
  rw [hX] at h1
  try simp only [Nat.add_zero] at h1
  have hlt : tb < w.heap.size := World.block_lt_of_cell? _ _ h1
  have h3 := keep_cell (keep3 (o1 := .cells #[.int .i64 a, .int .i64 b, .int .i64 c, .int .i64 d] 66) (o2 := .cells #[.int .i64 1, .int .i64 0, .int .i64 3] 43) (o3 := .cells #[.int .i64 0, .int .i64 0, .int .i64 0, .int .i64 0] 66)) h1
  clear hv hc hX
  go_enter Try.func55, Try.ntmps55
  go_wp2
  go_region
  all_goals go_wp2
  refine bodyPost_ret (v := levV a b c x) (by unfold levV; simp [results, Try.results55, go_sem]) rfl ⟨rfl, ?_⟩
  repeat (first | assumption | exact Below.refl _ _ | refine Below.setCell ?_ (by first | omega | (simp; done) | (simp; omega)) _ | refine Below.drew ?_ | refine Below.alloc ?_ (by first | omega | (simp; done) | (simp; omega)) _)
set_option maxHeartbeats 1000000 in
theorem does_empty0 (v : Value) (a b c d : Int) (w : World) :
    Calls Try.prog 55 #[v, .agg #[.int .i64 a, .int .i64 b, .int .i64 c, .int .i64 d], .agg #[.int .i64 2, .int .i64 0, .int .i64 0]] w fun e w' => e = .returned (levV 0 b c d) ∧ Below w.heap.size w w' := by
  go_enter Try.func55, Try.ntmps55
  go_wp2
  refine bodyPost_ret (v := levV 0 b c d) (by unfold levV; simp [results, Try.results55, go_sem]) rfl ⟨rfl, ?_⟩
  repeat (first | assumption | exact Below.refl _ _ | refine Below.setCell ?_ (by first | omega | (simp; done) | (simp; omega)) _ | refine Below.drew ?_ | refine Below.alloc ?_ (by first | omega | (simp; done) | (simp; omega)) _)
set_option maxHeartbeats 1000000 in
theorem does_empty2 (v : Value) (a b c d : Int) (w : World) :
    Calls Try.prog 55 #[v, .agg #[.int .i64 a, .int .i64 b, .int .i64 c, .int .i64 d], .agg #[.int .i64 2, .int .i64 0, .int .i64 2]] w fun e w' => e = .returned (levV a b 0 d) ∧ Below w.heap.size w w' := by
  go_enter Try.func55, Try.ntmps55
  go_wp2
  refine bodyPost_ret (v := levV a b 0 d) (by unfold levV; simp [results, Try.results55, go_sem]) rfl ⟨rfl, ?_⟩
  repeat (first | assumption | exact Below.refl _ _ | refine Below.setCell ?_ (by first | omega | (simp; done) | (simp; omega)) _ | refine Below.drew ?_ | refine Below.alloc ?_ (by first | omega | (simp; done) | (simp; omega)) _)
set_option maxHeartbeats 1000000 in
theorem does_empty3 (v : Value) (a b c d : Int) (w : World) :
    Calls Try.prog 55 #[v, .agg #[.int .i64 a, .int .i64 b, .int .i64 c, .int .i64 d], .agg #[.int .i64 2, .int .i64 0, .int .i64 3]] w fun e w' => e = .returned (levV a b c 0) ∧ Below w.heap.size w w' := by
  go_enter Try.func55, Try.ntmps55
  go_wp2
  refine bodyPost_ret (v := levV a b c 0) (by unfold levV; simp [results, Try.results55, go_sem]) rfl ⟨rfl, ?_⟩
  repeat (first | assumption | exact Below.refl _ _ | refine Below.setCell ?_ (by first | omega | (simp; done) | (simp; omega)) _ | refine Below.drew ?_ | refine Below.alloc ?_ (by first | omega | (simp; done) | (simp; omega)) _)
set_option maxHeartbeats 1000000 in
theorem does_pour02 (v : Value) (t : List Int) (a b c d x n : Int) (w : World) (hv : IntsAt w v t) (hk : 2 < t.length) (hp : 0 ≤ a ∧ a ≤ 12) (hq : 0 ≤ c ∧ c ≤ 12) (hx : 0 ≤ x ∧ x ≤ 12) (hX : t.getD 2 0 = x) (hn : n = min a (x - c)) :
    Calls Try.prog 55 #[v, .agg #[.int .i64 a, .int .i64 b, .int .i64 c, .int .i64 d], .agg #[.int .i64 3, .int .i64 0, .int .i64 2]] w fun e w' => e = .returned (levV (a - n) b (c + n) d) ∧ Below w.heap.size w w' := by
  obtain ⟨tb, off, cap, rfl, hc⟩ := ints_cell hv (by omega)
  have h1 := hc 2 hk
  rw [hX] at h1
  try simp only [Nat.add_zero] at h1
  have hlt : tb < w.heap.size := World.block_lt_of_cell? _ _ h1
  have h3 := keep_cell (keep3 (o1 := .cells #[.int .i64 a, .int .i64 b, .int .i64 c, .int .i64 d] 66) (o2 := .cells #[.int .i64 3, .int .i64 0, .int .i64 2] 43) (o3 := .cells #[.int .i64 0, .int .i64 0, .int .i64 0, .int .i64 0] 66)) h1
  clear hv hc hX
  by_cases hle : a ≤ x - c
  · have e : a = n := by omega
    clear hn
    subst e
    go_enter Try.func55, Try.ntmps55
    go_wp2
    go_region
    all_goals go_wp2
    refine bodyPost_ret (v := levV (a - a) b (c + a) d) (by unfold levV; simp [results, Try.results55, go_sem]) rfl ⟨rfl, ?_⟩
    repeat (first | assumption | exact Below.refl _ _ | refine Below.setCell ?_ (by first | omega | (simp; done) | (simp; omega)) _ | refine Below.drew ?_ | refine Below.alloc ?_ (by first | omega | (simp; done) | (simp; omega)) _)
  · have e : x - c = n := by omega
    clear hn
    subst e
    go_enter Try.func55, Try.ntmps55
    go_wp2
    go_region
    all_goals go_wp2
    refine bodyPost_ret (v := levV (a - (x - c)) b (c + (x - c)) d) (by unfold levV; simp [results, Try.results55, go_sem]) rfl ⟨rfl, ?_⟩
    repeat (first | assumption | exact Below.refl _ _ | refine Below.setCell ?_ (by first | omega | (simp; done) | (simp; omega)) _ | refine Below.drew ?_ | refine Below.alloc ?_ (by first | omega | (simp; done) | (simp; omega)) _)
set_option maxHeartbeats 1000000 in
theorem does_pour03 (v : Value) (t : List Int) (a b c d x n : Int) (w : World) (hv : IntsAt w v t) (hk : 3 < t.length) (hp : 0 ≤ a ∧ a ≤ 12) (hq : 0 ≤ d ∧ d ≤ 12) (hx : 0 ≤ x ∧ x ≤ 12) (hX : t.getD 3 0 = x) (hn : n = min a (x - d)) :
    Calls Try.prog 55 #[v, .agg #[.int .i64 a, .int .i64 b, .int .i64 c, .int .i64 d], .agg #[.int .i64 3, .int .i64 0, .int .i64 3]] w fun e w' => e = .returned (levV (a - n) b c (d + n)) ∧ Below w.heap.size w w' := by
  obtain ⟨tb, off, cap, rfl, hc⟩ := ints_cell hv (by omega)
  have h1 := hc 3 hk
  rw [hX] at h1
  try simp only [Nat.add_zero] at h1
  have hlt : tb < w.heap.size := World.block_lt_of_cell? _ _ h1
  have h3 := keep_cell (keep3 (o1 := .cells #[.int .i64 a, .int .i64 b, .int .i64 c, .int .i64 d] 66) (o2 := .cells #[.int .i64 3, .int .i64 0, .int .i64 3] 43) (o3 := .cells #[.int .i64 0, .int .i64 0, .int .i64 0, .int .i64 0] 66)) h1
  clear hv hc hX
  by_cases hle : a ≤ x - d
  · have e : a = n := by omega
    clear hn
    subst e
    go_enter Try.func55, Try.ntmps55
    go_wp2
    go_region
    all_goals go_wp2
    refine bodyPost_ret (v := levV (a - a) b c (d + a)) (by unfold levV; simp [results, Try.results55, go_sem]) rfl ⟨rfl, ?_⟩
    repeat (first | assumption | exact Below.refl _ _ | refine Below.setCell ?_ (by first | omega | (simp; done) | (simp; omega)) _ | refine Below.drew ?_ | refine Below.alloc ?_ (by first | omega | (simp; done) | (simp; omega)) _)
  · have e : x - d = n := by omega
    clear hn
    subst e
    go_enter Try.func55, Try.ntmps55
    go_wp2
    go_region
    all_goals go_wp2
    refine bodyPost_ret (v := levV (a - (x - d)) b c (d + (x - d))) (by unfold levV; simp [results, Try.results55, go_sem]) rfl ⟨rfl, ?_⟩
    repeat (first | assumption | exact Below.refl _ _ | refine Below.setCell ?_ (by first | omega | (simp; done) | (simp; omega)) _ | refine Below.drew ?_ | refine Below.alloc ?_ (by first | omega | (simp; done) | (simp; omega)) _)
set_option maxHeartbeats 1000000 in
theorem does_pour10 (v : Value) (t : List Int) (a b c d x n : Int) (w : World) (hv : IntsAt w v t) (hk : 0 < t.length) (hp : 0 ≤ b ∧ b ≤ 12) (hq : 0 ≤ a ∧ a ≤ 12) (hx : 0 ≤ x ∧ x ≤ 12) (hX : t.getD 0 0 = x) (hn : n = min b (x - a)) :
    Calls Try.prog 55 #[v, .agg #[.int .i64 a, .int .i64 b, .int .i64 c, .int .i64 d], .agg #[.int .i64 3, .int .i64 1, .int .i64 0]] w fun e w' => e = .returned (levV (a + n) (b - n) c d) ∧ Below w.heap.size w w' := by
  obtain ⟨tb, off, cap, rfl, hc⟩ := ints_cell hv (by omega)
  have h1 := hc 0 hk
  rw [hX] at h1
  try simp only [Nat.add_zero] at h1
  have hlt : tb < w.heap.size := World.block_lt_of_cell? _ _ h1
  have h3 := keep_cell (keep3 (o1 := .cells #[.int .i64 a, .int .i64 b, .int .i64 c, .int .i64 d] 66) (o2 := .cells #[.int .i64 3, .int .i64 1, .int .i64 0] 43) (o3 := .cells #[.int .i64 0, .int .i64 0, .int .i64 0, .int .i64 0] 66)) h1
  clear hv hc hX
  by_cases hle : b ≤ x - a
  · have e : b = n := by omega
    clear hn
    subst e
    go_enter Try.func55, Try.ntmps55
    go_wp2
    go_region
    all_goals go_wp2
    refine bodyPost_ret (v := levV (a + b) (b - b) c d) (by unfold levV; simp [results, Try.results55, go_sem]) rfl ⟨rfl, ?_⟩
    repeat (first | assumption | exact Below.refl _ _ | refine Below.setCell ?_ (by first | omega | (simp; done) | (simp; omega)) _ | refine Below.drew ?_ | refine Below.alloc ?_ (by first | omega | (simp; done) | (simp; omega)) _)
  · have e : x - a = n := by omega
    clear hn
    subst e
    go_enter Try.func55, Try.ntmps55
    go_wp2
    go_region
    all_goals go_wp2
    refine bodyPost_ret (v := levV (a + (x - a)) (b - (x - a)) c d) (by unfold levV; simp [results, Try.results55, go_sem]) rfl ⟨rfl, ?_⟩
    repeat (first | assumption | exact Below.refl _ _ | refine Below.setCell ?_ (by first | omega | (simp; done) | (simp; omega)) _ | refine Below.drew ?_ | refine Below.alloc ?_ (by first | omega | (simp; done) | (simp; omega)) _)
set_option maxHeartbeats 1000000 in
theorem does_pour12 (v : Value) (t : List Int) (a b c d x n : Int) (w : World) (hv : IntsAt w v t) (hk : 2 < t.length) (hp : 0 ≤ b ∧ b ≤ 12) (hq : 0 ≤ c ∧ c ≤ 12) (hx : 0 ≤ x ∧ x ≤ 12) (hX : t.getD 2 0 = x) (hn : n = min b (x - c)) :
    Calls Try.prog 55 #[v, .agg #[.int .i64 a, .int .i64 b, .int .i64 c, .int .i64 d], .agg #[.int .i64 3, .int .i64 1, .int .i64 2]] w fun e w' => e = .returned (levV a (b - n) (c + n) d) ∧ Below w.heap.size w w' := by
  obtain ⟨tb, off, cap, rfl, hc⟩ := ints_cell hv (by omega)
  have h1 := hc 2 hk
  rw [hX] at h1
  try simp only [Nat.add_zero] at h1
  have hlt : tb < w.heap.size := World.block_lt_of_cell? _ _ h1
  have h3 := keep_cell (keep3 (o1 := .cells #[.int .i64 a, .int .i64 b, .int .i64 c, .int .i64 d] 66) (o2 := .cells #[.int .i64 3, .int .i64 1, .int .i64 2] 43) (o3 := .cells #[.int .i64 0, .int .i64 0, .int .i64 0, .int .i64 0] 66)) h1
  clear hv hc hX
  by_cases hle : b ≤ x - c
  · have e : b = n := by omega
    clear hn
    subst e
    go_enter Try.func55, Try.ntmps55
    go_wp2
    go_region
    all_goals go_wp2
    refine bodyPost_ret (v := levV a (b - b) (c + b) d) (by unfold levV; simp [results, Try.results55, go_sem]) rfl ⟨rfl, ?_⟩
    repeat (first | assumption | exact Below.refl _ _ | refine Below.setCell ?_ (by first | omega | (simp; done) | (simp; omega)) _ | refine Below.drew ?_ | refine Below.alloc ?_ (by first | omega | (simp; done) | (simp; omega)) _)
  · have e : x - c = n := by omega
    clear hn
    subst e
    go_enter Try.func55, Try.ntmps55
    go_wp2
    go_region
    all_goals go_wp2
    refine bodyPost_ret (v := levV a (b - (x - c)) (c + (x - c)) d) (by unfold levV; simp [results, Try.results55, go_sem]) rfl ⟨rfl, ?_⟩
    repeat (first | assumption | exact Below.refl _ _ | refine Below.setCell ?_ (by first | omega | (simp; done) | (simp; omega)) _ | refine Below.drew ?_ | refine Below.alloc ?_ (by first | omega | (simp; done) | (simp; omega)) _)
set_option maxHeartbeats 1000000 in
theorem does_pour13 (v : Value) (t : List Int) (a b c d x n : Int) (w : World) (hv : IntsAt w v t) (hk : 3 < t.length) (hp : 0 ≤ b ∧ b ≤ 12) (hq : 0 ≤ d ∧ d ≤ 12) (hx : 0 ≤ x ∧ x ≤ 12) (hX : t.getD 3 0 = x) (hn : n = min b (x - d)) :
    Calls Try.prog 55 #[v, .agg #[.int .i64 a, .int .i64 b, .int .i64 c, .int .i64 d], .agg #[.int .i64 3, .int .i64 1, .int .i64 3]] w fun e w' => e = .returned (levV a (b - n) c (d + n)) ∧ Below w.heap.size w w' := by
  obtain ⟨tb, off, cap, rfl, hc⟩ := ints_cell hv (by omega)
  have h1 := hc 3 hk
  rw [hX] at h1
  try simp only [Nat.add_zero] at h1
  have hlt : tb < w.heap.size := World.block_lt_of_cell? _ _ h1
  have h3 := keep_cell (keep3 (o1 := .cells #[.int .i64 a, .int .i64 b, .int .i64 c, .int .i64 d] 66) (o2 := .cells #[.int .i64 3, .int .i64 1, .int .i64 3] 43) (o3 := .cells #[.int .i64 0, .int .i64 0, .int .i64 0, .int .i64 0] 66)) h1
  clear hv hc hX
  by_cases hle : b ≤ x - d
  · have e : b = n := by omega
    clear hn
    subst e
    go_enter Try.func55, Try.ntmps55
    go_wp2
    go_region
    all_goals go_wp2
    refine bodyPost_ret (v := levV a (b - b) c (d + b)) (by unfold levV; simp [results, Try.results55, go_sem]) rfl ⟨rfl, ?_⟩
    repeat (first | assumption | exact Below.refl _ _ | refine Below.setCell ?_ (by first | omega | (simp; done) | (simp; omega)) _ | refine Below.drew ?_ | refine Below.alloc ?_ (by first | omega | (simp; done) | (simp; omega)) _)
  · have e : x - d = n := by omega
    clear hn
    subst e
    go_enter Try.func55, Try.ntmps55
    go_wp2
    go_region
    all_goals go_wp2
    refine bodyPost_ret (v := levV a (b - (x - d)) c (d + (x - d))) (by unfold levV; simp [results, Try.results55, go_sem]) rfl ⟨rfl, ?_⟩
    repeat (first | assumption | exact Below.refl _ _ | refine Below.setCell ?_ (by first | omega | (simp; done) | (simp; omega)) _ | refine Below.drew ?_ | refine Below.alloc ?_ (by first | omega | (simp; done) | (simp; omega)) _)
set_option maxHeartbeats 1000000 in
theorem does_pour20 (v : Value) (t : List Int) (a b c d x n : Int) (w : World) (hv : IntsAt w v t) (hk : 0 < t.length) (hp : 0 ≤ c ∧ c ≤ 12) (hq : 0 ≤ a ∧ a ≤ 12) (hx : 0 ≤ x ∧ x ≤ 12) (hX : t.getD 0 0 = x) (hn : n = min c (x - a)) :
    Calls Try.prog 55 #[v, .agg #[.int .i64 a, .int .i64 b, .int .i64 c, .int .i64 d], .agg #[.int .i64 3, .int .i64 2, .int .i64 0]] w fun e w' => e = .returned (levV (a + n) b (c - n) d) ∧ Below w.heap.size w w' := by
  obtain ⟨tb, off, cap, rfl, hc⟩ := ints_cell hv (by omega)
  have h1 := hc 0 hk
  rw [hX] at h1
  try simp only [Nat.add_zero] at h1
  have hlt : tb < w.heap.size := World.block_lt_of_cell? _ _ h1
  have h3 := keep_cell (keep3 (o1 := .cells #[.int .i64 a, .int .i64 b, .int .i64 c, .int .i64 d] 66) (o2 := .cells #[.int .i64 3, .int .i64 2, .int .i64 0] 43) (o3 := .cells #[.int .i64 0, .int .i64 0, .int .i64 0, .int .i64 0] 66)) h1
  clear hv hc hX
  by_cases hle : c ≤ x - a
  · have e : c = n := by omega
    clear hn
    subst e
    go_enter Try.func55, Try.ntmps55
    go_wp2
    go_region
    all_goals go_wp2
    refine bodyPost_ret (v := levV (a + c) b (c - c) d) (by unfold levV; simp [results, Try.results55, go_sem]) rfl ⟨rfl, ?_⟩
    repeat (first | assumption | exact Below.refl _ _ | refine Below.setCell ?_ (by first | omega | (simp; done) | (simp; omega)) _ | refine Below.drew ?_ | refine Below.alloc ?_ (by first | omega | (simp; done) | (simp; omega)) _)
  · have e : x - a = n := by omega
    clear hn
    subst e
    go_enter Try.func55, Try.ntmps55
    go_wp2
    go_region
    all_goals go_wp2
    refine bodyPost_ret (v := levV (a + (x - a)) b (c - (x - a)) d) (by unfold levV; simp [results, Try.results55, go_sem]) rfl ⟨rfl, ?_⟩
    repeat (first | assumption | exact Below.refl _ _ | refine Below.setCell ?_ (by first | omega | (simp; done) | (simp; omega)) _ | refine Below.drew ?_ | refine Below.alloc ?_ (by first | omega | (simp; done) | (simp; omega)) _)
set_option maxHeartbeats 1000000 in
theorem does_pour21 (v : Value) (t : List Int) (a b c d x n : Int) (w : World) (hv : IntsAt w v t) (hk : 1 < t.length) (hp : 0 ≤ c ∧ c ≤ 12) (hq : 0 ≤ b ∧ b ≤ 12) (hx : 0 ≤ x ∧ x ≤ 12) (hX : t.getD 1 0 = x) (hn : n = min c (x - b)) :
    Calls Try.prog 55 #[v, .agg #[.int .i64 a, .int .i64 b, .int .i64 c, .int .i64 d], .agg #[.int .i64 3, .int .i64 2, .int .i64 1]] w fun e w' => e = .returned (levV a (b + n) (c - n) d) ∧ Below w.heap.size w w' := by
  obtain ⟨tb, off, cap, rfl, hc⟩ := ints_cell hv (by omega)
  have h1 := hc 1 hk
  rw [hX] at h1
  try simp only [Nat.add_zero] at h1
  have hlt : tb < w.heap.size := World.block_lt_of_cell? _ _ h1
  have h3 := keep_cell (keep3 (o1 := .cells #[.int .i64 a, .int .i64 b, .int .i64 c, .int .i64 d] 66) (o2 := .cells #[.int .i64 3, .int .i64 2, .int .i64 1] 43) (o3 := .cells #[.int .i64 0, .int .i64 0, .int .i64 0, .int .i64 0] 66)) h1
  clear hv hc hX
  by_cases hle : c ≤ x - b
  · have e : c = n := by omega
    clear hn
    subst e
    go_enter Try.func55, Try.ntmps55
    go_wp2
    go_region
    all_goals go_wp2
    refine bodyPost_ret (v := levV a (b + c) (c - c) d) (by unfold levV; simp [results, Try.results55, go_sem]) rfl ⟨rfl, ?_⟩
    repeat (first | assumption | exact Below.refl _ _ | refine Below.setCell ?_ (by first | omega | (simp; done) | (simp; omega)) _ | refine Below.drew ?_ | refine Below.alloc ?_ (by first | omega | (simp; done) | (simp; omega)) _)
  · have e : x - b = n := by omega
    clear hn
    subst e
    go_enter Try.func55, Try.ntmps55
    go_wp2
    go_region
    all_goals go_wp2
    refine bodyPost_ret (v := levV a (b + (x - b)) (c - (x - b)) d) (by unfold levV; simp [results, Try.results55, go_sem]) rfl ⟨rfl, ?_⟩
    repeat (first | assumption | exact Below.refl _ _ | refine Below.setCell ?_ (by first | omega | (simp; done) | (simp; omega)) _ | refine Below.drew ?_ | refine Below.alloc ?_ (by first | omega | (simp; done) | (simp; omega)) _)
set_option maxHeartbeats 1000000 in
theorem does_pour23 (v : Value) (t : List Int) (a b c d x n : Int) (w : World) (hv : IntsAt w v t) (hk : 3 < t.length) (hp : 0 ≤ c ∧ c ≤ 12) (hq : 0 ≤ d ∧ d ≤ 12) (hx : 0 ≤ x ∧ x ≤ 12) (hX : t.getD 3 0 = x) (hn : n = min c (x - d)) :
    Calls Try.prog 55 #[v, .agg #[.int .i64 a, .int .i64 b, .int .i64 c, .int .i64 d], .agg #[.int .i64 3, .int .i64 2, .int .i64 3]] w fun e w' => e = .returned (levV a b (c - n) (d + n)) ∧ Below w.heap.size w w' := by
  obtain ⟨tb, off, cap, rfl, hc⟩ := ints_cell hv (by omega)
  have h1 := hc 3 hk
  rw [hX] at h1
  try simp only [Nat.add_zero] at h1
  have hlt : tb < w.heap.size := World.block_lt_of_cell? _ _ h1
  have h3 := keep_cell (keep3 (o1 := .cells #[.int .i64 a, .int .i64 b, .int .i64 c, .int .i64 d] 66) (o2 := .cells #[.int .i64 3, .int .i64 2, .int .i64 3] 43) (o3 := .cells #[.int .i64 0, .int .i64 0, .int .i64 0, .int .i64 0] 66)) h1
  clear hv hc hX
  by_cases hle : c ≤ x - d
  · have e : c = n := by omega
    clear hn
    subst e
    go_enter Try.func55, Try.ntmps55
    go_wp2
    go_region
    all_goals go_wp2
    refine bodyPost_ret (v := levV a b (c - c) (d + c)) (by unfold levV; simp [results, Try.results55, go_sem]) rfl ⟨rfl, ?_⟩
    repeat (first | assumption | exact Below.refl _ _ | refine Below.setCell ?_ (by first | omega | (simp; done) | (simp; omega)) _ | refine Below.drew ?_ | refine Below.alloc ?_ (by first | omega | (simp; done) | (simp; omega)) _)
  · have e : x - d = n := by omega
    clear hn
    subst e
    go_enter Try.func55, Try.ntmps55
    go_wp2
    go_region
    all_goals go_wp2
    refine bodyPost_ret (v := levV a b (c - (x - d)) (d + (x - d))) (by unfold levV; simp [results, Try.results55, go_sem]) rfl ⟨rfl, ?_⟩
    repeat (first | assumption | exact Below.refl _ _ | refine Below.setCell ?_ (by first | omega | (simp; done) | (simp; omega)) _ | refine Below.drew ?_ | refine Below.alloc ?_ (by first | omega | (simp; done) | (simp; omega)) _)
set_option maxHeartbeats 1000000 in
theorem does_pour30 (v : Value) (t : List Int) (a b c d x n : Int) (w : World) (hv : IntsAt w v t) (hk : 0 < t.length) (hp : 0 ≤ d ∧ d ≤ 12) (hq : 0 ≤ a ∧ a ≤ 12) (hx : 0 ≤ x ∧ x ≤ 12) (hX : t.getD 0 0 = x) (hn : n = min d (x - a)) :
    Calls Try.prog 55 #[v, .agg #[.int .i64 a, .int .i64 b, .int .i64 c, .int .i64 d], .agg #[.int .i64 3, .int .i64 3, .int .i64 0]] w fun e w' => e = .returned (levV (a + n) b c (d - n)) ∧ Below w.heap.size w w' := by
  obtain ⟨tb, off, cap, rfl, hc⟩ := ints_cell hv (by omega)
  have h1 := hc 0 hk
  rw [hX] at h1
  try simp only [Nat.add_zero] at h1
  have hlt : tb < w.heap.size := World.block_lt_of_cell? _ _ h1
  have h3 := keep_cell (keep3 (o1 := .cells #[.int .i64 a, .int .i64 b, .int .i64 c, .int .i64 d] 66) (o2 := .cells #[.int .i64 3, .int .i64 3, .int .i64 0] 43) (o3 := .cells #[.int .i64 0, .int .i64 0, .int .i64 0, .int .i64 0] 66)) h1
  clear hv hc hX
  by_cases hle : d ≤ x - a
  · have e : d = n := by omega
    clear hn
    subst e
    go_enter Try.func55, Try.ntmps55
    go_wp2
    go_region
    all_goals go_wp2
    refine bodyPost_ret (v := levV (a + d) b c (d - d)) (by unfold levV; simp [results, Try.results55, go_sem]) rfl ⟨rfl, ?_⟩
    repeat (first | assumption | exact Below.refl _ _ | refine Below.setCell ?_ (by first | omega | (simp; done) | (simp; omega)) _ | refine Below.drew ?_ | refine Below.alloc ?_ (by first | omega | (simp; done) | (simp; omega)) _)
  · have e : x - a = n := by omega
    clear hn
    subst e
    go_enter Try.func55, Try.ntmps55
    go_wp2
    go_region
    all_goals go_wp2
    refine bodyPost_ret (v := levV (a + (x - a)) b c (d - (x - a))) (by unfold levV; simp [results, Try.results55, go_sem]) rfl ⟨rfl, ?_⟩
    repeat (first | assumption | exact Below.refl _ _ | refine Below.setCell ?_ (by first | omega | (simp; done) | (simp; omega)) _ | refine Below.drew ?_ | refine Below.alloc ?_ (by first | omega | (simp; done) | (simp; omega)) _)
set_option maxHeartbeats 1000000 in
theorem does_pour31 (v : Value) (t : List Int) (a b c d x n : Int) (w : World) (hv : IntsAt w v t) (hk : 1 < t.length) (hp : 0 ≤ d ∧ d ≤ 12) (hq : 0 ≤ b ∧ b ≤ 12) (hx : 0 ≤ x ∧ x ≤ 12) (hX : t.getD 1 0 = x) (hn : n = min d (x - b)) :
    Calls Try.prog 55 #[v, .agg #[.int .i64 a, .int .i64 b, .int .i64 c, .int .i64 d], .agg #[.int .i64 3, .int .i64 3, .int .i64 1]] w fun e w' => e = .returned (levV a (b + n) c (d - n)) ∧ Below w.heap.size w w' := by
  obtain ⟨tb, off, cap, rfl, hc⟩ := ints_cell hv (by omega)
  have h1 := hc 1 hk
  rw [hX] at h1
  try simp only [Nat.add_zero] at h1
  have hlt : tb < w.heap.size := World.block_lt_of_cell? _ _ h1
  have h3 := keep_cell (keep3 (o1 := .cells #[.int .i64 a, .int .i64 b, .int .i64 c, .int .i64 d] 66) (o2 := .cells #[.int .i64 3, .int .i64 3, .int .i64 1] 43) (o3 := .cells #[.int .i64 0, .int .i64 0, .int .i64 0, .int .i64 0] 66)) h1
  clear hv hc hX
  by_cases hle : d ≤ x - b
  · have e : d = n := by omega
    clear hn
    subst e
    go_enter Try.func55, Try.ntmps55
    go_wp2
    go_region
    all_goals go_wp2
    refine bodyPost_ret (v := levV a (b + d) c (d - d)) (by unfold levV; simp [results, Try.results55, go_sem]) rfl ⟨rfl, ?_⟩
    repeat (first | assumption | exact Below.refl _ _ | refine Below.setCell ?_ (by first | omega | (simp; done) | (simp; omega)) _ | refine Below.drew ?_ | refine Below.alloc ?_ (by first | omega | (simp; done) | (simp; omega)) _)
  · have e : x - b = n := by omega
    clear hn
    subst e
    go_enter Try.func55, Try.ntmps55
    go_wp2
    go_region
    all_goals go_wp2
    refine bodyPost_ret (v := levV a (b + (x - b)) c (d - (x - b))) (by unfold levV; simp [results, Try.results55, go_sem]) rfl ⟨rfl, ?_⟩
    repeat (first | assumption | exact Below.refl _ _ | refine Below.setCell ?_ (by first | omega | (simp; done) | (simp; omega)) _ | refine Below.drew ?_ | refine Below.alloc ?_ (by first | omega | (simp; done) | (simp; omega)) _)
set_option maxHeartbeats 1000000 in
theorem does_pour32 (v : Value) (t : List Int) (a b c d x n : Int) (w : World) (hv : IntsAt w v t) (hk : 2 < t.length) (hp : 0 ≤ d ∧ d ≤ 12) (hq : 0 ≤ c ∧ c ≤ 12) (hx : 0 ≤ x ∧ x ≤ 12) (hX : t.getD 2 0 = x) (hn : n = min d (x - c)) :
    Calls Try.prog 55 #[v, .agg #[.int .i64 a, .int .i64 b, .int .i64 c, .int .i64 d], .agg #[.int .i64 3, .int .i64 3, .int .i64 2]] w fun e w' => e = .returned (levV a b (c + n) (d - n)) ∧ Below w.heap.size w w' := by
  obtain ⟨tb, off, cap, rfl, hc⟩ := ints_cell hv (by omega)
  have h1 := hc 2 hk
  rw [hX] at h1
  try simp only [Nat.add_zero] at h1
  have hlt : tb < w.heap.size := World.block_lt_of_cell? _ _ h1
  have h3 := keep_cell (keep3 (o1 := .cells #[.int .i64 a, .int .i64 b, .int .i64 c, .int .i64 d] 66) (o2 := .cells #[.int .i64 3, .int .i64 3, .int .i64 2] 43) (o3 := .cells #[.int .i64 0, .int .i64 0, .int .i64 0, .int .i64 0] 66)) h1
  clear hv hc hX
  by_cases hle : d ≤ x - c
  · have e : d = n := by omega
    clear hn
    subst e
    go_enter Try.func55, Try.ntmps55
    go_wp2
    go_region
    all_goals go_wp2
    refine bodyPost_ret (v := levV a b (c + d) (d - d)) (by unfold levV; simp [results, Try.results55, go_sem]) rfl ⟨rfl, ?_⟩
    repeat (first | assumption | exact Below.refl _ _ | refine Below.setCell ?_ (by first | omega | (simp; done) | (simp; omega)) _ | refine Below.drew ?_ | refine Below.alloc ?_ (by first | omega | (simp; done) | (simp; omega)) _)
  · have e : x - c = n := by omega
    clear hn
    subst e
    go_enter Try.func55, Try.ntmps55
    go_wp2
    go_region
    all_goals go_wp2
    refine bodyPost_ret (v := levV a b (c + (x - c)) (d - (x - c))) (by unfold levV; simp [results, Try.results55, go_sem]) rfl ⟨rfl, ?_⟩
    repeat (first | assumption | exact Below.refl _ _ | refine Below.setCell ?_ (by first | omega | (simp; done) | (simp; omega)) _ | refine Below.drew ?_ | refine Below.alloc ?_ (by first | omega | (simp; done) | (simp; omega)) _)

end Go.Proofs.Ytikcpfpeoofppaa
