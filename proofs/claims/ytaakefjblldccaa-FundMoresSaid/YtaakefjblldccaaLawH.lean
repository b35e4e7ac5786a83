/- The walk of the law FundMores. -/
import Derived.Test.YtaakefjblldccaaSr
namespace Go.Proofs.Ytaakefjblldccaa
open Go.RowKit

set_option maxRecDepth 100000 in
set_option maxHeartbeats 2000000 in
theorem FundMores_walk (v : Value) (c : List Int) (x0 x1 x2 x3 : Int) (w : World) (hv : IntsAt w v c) (hcp : CapOk v) :
    Calls Try.prog 15 #[v, .agg #[.int .i64 x0, .int .i64 x1, .int .i64 x2, .int .i64 x3]] w fun e w' => e = .returned (.bool true) ∧ Below w.heap.size w w' := by
  have HV := Lib.hid hv
  have hB1 := (Below.refl w.heap.size w).alloc (Nat.le_refl _) (.cells #[.int .i64 x0, .int .i64 x1, .int .i64 x2, .int .i64 x3] 59)
  have HB1 := Lib.hid hB1
  have a0 : (w.alloc (.cells #[.int .i64 x0, .int .i64 x1, .int .i64 x2, .int .i64 x3] 59)).cell? ⟨w.heap.size, 0, none⟩ = some (.int .i64 x0) := by simp
  have a1 : (w.alloc (.cells #[.int .i64 x0, .int .i64 x1, .int .i64 x2, .int .i64 x3] 59)).cell? ⟨w.heap.size, 1, none⟩ = some (.int .i64 x1) := by simp
  have a2 : (w.alloc (.cells #[.int .i64 x0, .int .i64 x1, .int .i64 x2, .int .i64 x3] 59)).cell? ⟨w.heap.size, 2, none⟩ = some (.int .i64 x2) := by simp
  have a3 : (w.alloc (.cells #[.int .i64 x0, .int .i64 x1, .int .i64 x2, .int .i64 x3] 59)).cell? ⟨w.heap.size, 3, none⟩ = some (.int .i64 x3) := by simp
  have AC := Lib.hid (And.intro a0 (And.intro a1 (And.intro a2 a3)))
  have LG := Lib.hid (fun W (hb : Below w.heap.size w W) => long_any v c W (HV.out.below hb))
  have SN := Lib.hid sane_any
  have C1 := Lib.hid (fun W (hb : Below w.heap.size w W) => More_any v c x0 x1 x2 W (HV.out.below hb))
  have C2 := Lib.hid (fun W (hb : Below w.heap.size w W) => rMore_any v c x0 x1 x2 W (HV.out.below hb))
  have C3 := Lib.hid (fun W (hb : Below w.heap.size w W) => Split_any v c x0 x1 x2 x3 W (HV.out.below hb))
  have C4 := Lib.hid (fun W (hb : Below w.heap.size w W) => rSplit_any v c x0 x1 x2 x3 W (HV.out.below hb) hcp)
  generalize moreV c x0 x1 x2 = mv at *
  generalize moreE c x0 x1 x2 = me at *
  generalize splitV c x0 x1 x2 x3 = sv at *
  generalize splitE c x0 x1 x2 x3 = se at *
  obtain ⟨m1, m2⟩ := mv
  obtain ⟨s1, s2⟩ := sv
  unfold tupR at C1 C2 C3 C4
  simp only at C1 C2 C3 C4
  clear hv hB1 a0 a1 a2 a3 hcp
  by_cases h40 : 40 < c.length
  · have L : Hid (decide (40 < c.length) = true) := Lib.hid (decide_eq_true h40)
    clear h40
    go_enter Try.func15, Try.ntmps15
    go_wp2_with fail
    refine (LG.out _ HB1.out).mono ?_
    rintro e w' ⟨rfl, rfl⟩
    rw [L.out]
    go_wp2_with fail
    refine (SN.out _).mono ?_
    rintro e w2 ⟨rfl, hb2⟩
    have hh := below_trans HB1.out hb2
    go_wp2
    go_ret
    exact ⟨rfl, hh⟩
  · have L : Hid (decide (40 < c.length) = false) := Lib.hid (decide_eq_false h40)
    clear h40
    go_enter Try.func15, Try.ntmps15
    go_wp2_with fail
    refine (LG.out _ HB1.out).mono ?_
    rintro e w' ⟨rfl, rfl⟩
    rw [L.out]
    obtain ⟨w1, hw1⟩ : ∃ w1, w1 = w.alloc (.cells #[.int .i64 x0, .int .i64 x1, .int .i64 x2, .int .i64 x3] 59) := ⟨_, rfl⟩
    rw [← hw1] at HB1 AC ⊢
    clear hw1
    obtain ⟨a0, a1, a2, a3⟩ := AC.out
    go_wp2_with fail
    refine (C1.out _ HB1.out).mono ?_
    rintro e w2 ⟨rfl, hb2⟩
    have HB2 := Lib.hid (below_trans HB1.out hb2)
    have b0 := keep_cell hb2 a0
    have b1 := keep_cell hb2 a1
    have b2 := keep_cell hb2 a2
    have b3 := keep_cell hb2 a3
    clear a0 a1 a2 a3
    have a0 := b0
    have a1 := b1
    have a2 := b2
    have a3 := b3
    clear b0 b1 b2 b3
    clear hb2
    go_upto_region 4 with fail
    obtain ⟨w3, hww3⟩ : ∃ w3, w3 = w2.alloc (.cells #[.int .i64 m1, .int .i64 m2] 23) := ⟨_, rfl⟩
    have hb3 : Below w2.heap.size w2 w3 := by rw [hww3]; exact (Below.refl _ w2).alloc (Nat.le_refl _) _
    have HB3 := Lib.hid (below_trans HB2.out hb3)
    have t0 : w3.cell? ⟨w2.heap.size, 0, none⟩ = some (.int .i64 m1) := by rw [hww3]; simp
    have t1 : w3.cell? ⟨w2.heap.size, 1, none⟩ = some (.int .i64 m2) := by rw [hww3]; simp
    rw [← hww3]
    clear hww3
    have b0 := keep_cell hb3 a0
    have b1 := keep_cell hb3 a1
    have b2 := keep_cell hb3 a2
    have b3 := keep_cell hb3 a3
    clear a0 a1 a2 a3
    have a0 := b0
    have a1 := b1
    have a2 := b2
    have a3 := b3
    clear b0 b1 b2 b3
    clear hb3
    go_wp2_with fail
    refine (C2.out _ HB3.out).mono ?_
    rintro e w4 ⟨rfl, hb4⟩
    have HB4 := Lib.hid (below_trans HB3.out hb4)
    have b0 := keep_cell hb4 a0
    have b1 := keep_cell hb4 a1
    have b2 := keep_cell hb4 a2
    have b3 := keep_cell hb4 a3
    clear a0 a1 a2 a3
    have a0 := b0
    have a1 := b1
    have a2 := b2
    have a3 := b3
    clear b0 b1 b2 b3
    have b0 := keep_cell hb4 t0
    have b1 := keep_cell hb4 t1
    clear t0 t1
    have t0 := b0
    have t1 := b1
    clear b0 b1
    clear hb4
    go_upto_region 5 with fail
    obtain ⟨w5, hww5⟩ : ∃ w5, w5 = w4.alloc (.cells #[.int .i64 m1, .int .i64 m2] 23) := ⟨_, rfl⟩
    have hb5 : Below w4.heap.size w4 w5 := by rw [hww5]; exact (Below.refl _ w4).alloc (Nat.le_refl _) _
    have HB5 := Lib.hid (below_trans HB4.out hb5)
    have u0 : w5.cell? ⟨w4.heap.size, 0, none⟩ = some (.int .i64 m1) := by rw [hww5]; simp
    have u1 : w5.cell? ⟨w4.heap.size, 1, none⟩ = some (.int .i64 m2) := by rw [hww5]; simp
    rw [← hww5]
    clear hww5
    have b0 := keep_cell hb5 a0
    have b1 := keep_cell hb5 a1
    have b2 := keep_cell hb5 a2
    have b3 := keep_cell hb5 a3
    clear a0 a1 a2 a3
    have a0 := b0
    have a1 := b1
    have a2 := b2
    have a3 := b3
    clear b0 b1 b2 b3
    have b0 := keep_cell hb5 t0
    have b1 := keep_cell hb5 t1
    clear t0 t1
    have t0 := b0
    have t1 := b1
    clear b0 b1
    clear hb5
    go_wp2_with fail
    refine (C3.out _ HB5.out).mono ?_
    rintro e w6 ⟨rfl, hb6⟩
    have HB6 := Lib.hid (below_trans HB5.out hb6)
    have b0 := keep_cell hb6 a0
    have b1 := keep_cell hb6 a1
    have b2 := keep_cell hb6 a2
    have b3 := keep_cell hb6 a3
    clear a0 a1 a2 a3
    have a0 := b0
    have a1 := b1
    have a2 := b2
    have a3 := b3
    clear b0 b1 b2 b3
    have b0 := keep_cell hb6 t0
    have b1 := keep_cell hb6 t1
    clear t0 t1
    have t0 := b0
    have t1 := b1
    clear b0 b1
    have b0 := keep_cell hb6 u0
    have b1 := keep_cell hb6 u1
    clear u0 u1
    have u0 := b0
    have u1 := b1
    clear b0 b1
    clear hb6
    go_upto_region 6 with fail
    obtain ⟨w7, hww7⟩ : ∃ w7, w7 = w6.alloc (.cells #[.int .i64 s1, .int .i64 s2] 23) := ⟨_, rfl⟩
    have hb7 : Below w6.heap.size w6 w7 := by rw [hww7]; exact (Below.refl _ w6).alloc (Nat.le_refl _) _
    have HB7 := Lib.hid (below_trans HB6.out hb7)
    have p0 : w7.cell? ⟨w6.heap.size, 0, none⟩ = some (.int .i64 s1) := by rw [hww7]; simp
    have p1 : w7.cell? ⟨w6.heap.size, 1, none⟩ = some (.int .i64 s2) := by rw [hww7]; simp
    rw [← hww7]
    clear hww7
    have b0 := keep_cell hb7 a0
    have b1 := keep_cell hb7 a1
    have b2 := keep_cell hb7 a2
    have b3 := keep_cell hb7 a3
    clear a0 a1 a2 a3
    have a0 := b0
    have a1 := b1
    have a2 := b2
    have a3 := b3
    clear b0 b1 b2 b3
    have b0 := keep_cell hb7 t0
    have b1 := keep_cell hb7 t1
    clear t0 t1
    have t0 := b0
    have t1 := b1
    clear b0 b1
    have b0 := keep_cell hb7 u0
    have b1 := keep_cell hb7 u1
    clear u0 u1
    have u0 := b0
    have u1 := b1
    clear b0 b1
    clear hb7
    go_wp2_with fail
    refine (C4.out _ HB7.out).mono ?_
    rintro e w8 ⟨rfl, hb8⟩
    have HB8 := Lib.hid (below_trans HB7.out hb8)
    have b0 := keep_cell hb8 a0
    have b1 := keep_cell hb8 a1
    have b2 := keep_cell hb8 a2
    have b3 := keep_cell hb8 a3
    clear a0 a1 a2 a3
    have a0 := b0
    have a1 := b1
    have a2 := b2
    have a3 := b3
    clear b0 b1 b2 b3
    have b0 := keep_cell hb8 t0
    have b1 := keep_cell hb8 t1
    clear t0 t1
    have t0 := b0
    have t1 := b1
    clear b0 b1
    have b0 := keep_cell hb8 u0
    have b1 := keep_cell hb8 u1
    clear u0 u1
    have u0 := b0
    have u1 := b1
    clear b0 b1
    have b0 := keep_cell hb8 p0
    have b1 := keep_cell hb8 p1
    clear p0 p1
    have p0 := b0
    have p1 := b1
    clear b0 b1
    clear hb8
    go_upto_region 7 with fail
    obtain ⟨w9, hww9⟩ : ∃ w9, w9 = w8.alloc (.cells #[.int .i64 s1, .int .i64 s2] 23) := ⟨_, rfl⟩
    have hb9 : Below w8.heap.size w8 w9 := by rw [hww9]; exact (Below.refl _ w8).alloc (Nat.le_refl _) _
    have HB9 := Lib.hid (below_trans HB8.out hb9)
    have q0 : w9.cell? ⟨w8.heap.size, 0, none⟩ = some (.int .i64 s1) := by rw [hww9]; simp
    have q1 : w9.cell? ⟨w8.heap.size, 1, none⟩ = some (.int .i64 s2) := by rw [hww9]; simp
    rw [← hww9]
    clear hww9
    have b0 := keep_cell hb9 a0
    have b1 := keep_cell hb9 a1
    have b2 := keep_cell hb9 a2
    have b3 := keep_cell hb9 a3
    clear a0 a1 a2 a3
    have a0 := b0
    have a1 := b1
    have a2 := b2
    have a3 := b3
    clear b0 b1 b2 b3
    have b0 := keep_cell hb9 t0
    have b1 := keep_cell hb9 t1
    clear t0 t1
    have t0 := b0
    have t1 := b1
    clear b0 b1
    have b0 := keep_cell hb9 u0
    have b1 := keep_cell hb9 u1
    clear u0 u1
    have u0 := b0
    have u1 := b1
    clear b0 b1
    have b0 := keep_cell hb9 p0
    have b1 := keep_cell hb9 p1
    clear p0 p1
    have p0 := b0
    have p1 := b1
    clear b0 b1
    clear hb9
    go_wp2_with fail
    refine (SN.out _).mono ?_
    rintro e w10 ⟨rfl, hb10⟩
    have hh := below_trans HB9.out hb10
    go_wp2
    go_ret
    exact ⟨rfl, hh⟩

end Go.Proofs.Ytaakefjblldccaa
