/- Texts of this claim, laid together: TdE, TdF, TdLaw, TdG, TdH. -/
import Derived.Test.YtdfkaijeppdhaaaGreatDoorZEr14
import Derived.Test.YtdfkaijeppdhaaaGreatDoorZEr15

/- Contracts: the program's Speed, Drift, Round, Net, Beat. -/
namespace Go.Proofs.YtdfkaijeppdhaaaGreatDoor.Td
open Go.RowKit
/-- A number that is an hour; a number of hours. -/
def hourB (n : Int) : Bool := betw (-1000000) n 1000000
def spanB (n : Int) : Bool := betw 0 n 1000000

theorem hourB_iff (n : Int) : hourB n = true ↔ -1000000 ≤ n ∧ n ≤ 1000000 := betw_iff _ _ _
theorem spanB_iff (n : Int) : spanB n = true ↔ 0 ≤ n ∧ n ≤ 1000000 := betw_iff _ _ _

set_option maxHeartbeats 400000 in
theorem isHour_any (n : Int) (w : World) :
    Calls Tryz.prog 200 #[.int .i64 n] w fun e w' => e = .returned (.bool (hourB n)) ∧ w = w' := by
  unfold hourB
  go_enter Tryz.func200, Tryz.ntmps200
  go_wp2_with (go_at_call 201; refine (between_any _ _ _ _).mono ?_; rintro e w' ⟨rfl, rfl⟩)
  go_ret
  exact ⟨rfl, rfl⟩

theorem drift1_any (v : Value) (t : List (List Int)) (h n : Int) (B C : Nat) (w : World) (hv : RowsAt w v t) (ht : Vld t) (hcell : w.cell? ⟨B, 0, none⟩ = some (.int .i64 h)) (hcell2 : w.cell? ⟨C, 0, none⟩ = some (.int .i64 n))
    (hh : hourB h = true) (hn : spanB n = true) :
    Calls Tryz.prog 202 #[v, .pointer (some ⟨B, 0, none⟩), .pointer (some ⟨C, 0, none⟩)] w fun e w' => e = .returned (.int .i64 (acc (spd t) h n.toNat)) ∧ Below w.heap.size w w' := by
  have h1 := (hourB_iff h).1 hh
  have h2 := (spanB_iff n).1 hn
  obtain ⟨n, rfl⟩ := Int.eq_ofNat_of_zero_le h2.1
  have h3 : h ≤ 1000000 ∧ -1000000 ≤ h := ⟨h1.2, h1.1⟩
  clear hh hn h1
  go_enter Tryz.func202, Tryz.ntmps202
  go_wp2_with (go_at_call 203; refine (drift_any _ _ _ _ _ hv ht (by omega) (by omega) (by omega)).mono ?_; rintro e w1 ⟨rfl, hb1⟩)
  go_ret
  exact ⟨rfl, hb1⟩

set_option maxHeartbeats 400000 in
theorem tDrift_any (v : Value) (t : List (List Int)) (h n : Int) (w : World) (hv : RowsAt w v t) :
    Calls Tryz.prog 152 #[v, .int .i64 h, .int .i64 n] w fun e w' => e = .returned (.tuple #[.int .i64 (qi t (hourB h && spanB n) (acc (spd t) h n.toNat)), .int .i64 (qe t (hourB h && spanB n))]) ∧ Below w.heap.size w w' := by
  have hal : Below w.heap.size w ((w.alloc (.cells #[.int .i64 h] 3)).alloc (.cells #[.int .i64 n] 3)) := ((Below.refl _ w).alloc (Nat.le_refl _) _).alloc (by simp) _
  have hv1 := hv.below hal
  have hc1 : ((w.alloc (.cells #[.int .i64 h] 3)).alloc (.cells #[.int .i64 n] 3)).cell? ⟨w.heap.size, 0, none⟩ = some (.int .i64 h) := keep_cell ((Below.refl _ _).alloc (Nat.le_refl _) _) (by simp)
  have hc2 : ((w.alloc (.cells #[.int .i64 h] 3)).alloc (.cells #[.int .i64 n] 3)).cell? ⟨w.heap.size + 1, 0, none⟩ = some (.int .i64 n) := by
    have h1 : (w.alloc (.cells #[.int .i64 h] 3)).heap.size = w.heap.size + 1 := by simp
    rw [← h1]
    simp
  have HA := askedInt_any v t (hourB h && spanB n) 202 #[.pointer (some ⟨w.heap.size, 0, none⟩), .pointer (some ⟨w.heap.size + 1, 0, none⟩)] (acc (spd t) h n.toNat) _ hv1 (enters_of Tryz.func202 (by kernel_rfl) rfl)
    (fun hy hr W tv hr' hb => drift1_any tv t h n w.heap.size (w.heap.size + 1) W hr' ((vld_iff t).1 hy) (keep_cell hb hc1) (keep_cell hb hc2) (by simp at hr; exact hr.1) (by simp at hr; exact hr.2))
  have H := Lib.hid HA
  clear HA hc1 hc2 hv1 hv
  unfold spanB at *
  cases hh : hourB h with
  | true =>
    rw [hh] at H
    have HH := Lib.hid hh
    clear hh
    go_enter Tryz.func152, Tryz.ntmps152
    go_wp2_with (first | (go_at_call 200; refine (isHour_any _ _).mono ?_; rintro e w' ⟨rfl, rfl⟩; rw [HH.out]) | (go_at_call 201; refine (between_any _ _ _ _).mono ?_; rintro e w' ⟨rfl, rfl⟩) | (go_at_call 196; refine H.out.mono ?_; rintro e w1 ⟨rfl, hb1⟩))
    go_ret2
    exact ⟨rfl, below_trans hal hb1⟩
  | false =>
    rw [hh] at H
    have HH := Lib.hid hh
    clear hh
    go_enter Tryz.func152, Tryz.ntmps152
    go_wp2_with (first | (go_at_call 200; refine (isHour_any _ _).mono ?_; rintro e w' ⟨rfl, rfl⟩; rw [HH.out]) | (go_at_call 201; refine (between_any _ _ _ _).mono ?_; rintro e w' ⟨rfl, rfl⟩) | (go_at_call 196; refine H.out.mono ?_; rintro e w1 ⟨rfl, hb1⟩))
    go_ret2
    exact ⟨rfl, below_trans hal hb1⟩

set_option maxHeartbeats 400000 in
theorem tBeat_any (v : Value) (t : List (List Int)) (w : World) (hv : RowsAt w v t) :
    Calls Tryz.prog 150 #[v] w fun e w' => e = .returned (.tuple #[.int .i64 (qi t true (bt (spd t) (rnd t) : Nat)), .int .i64 (qe t true)]) ∧ Below w.heap.size w w' := by
  have HA := askedInt_any v t true 197 #[] (bt (spd t) (rnd t) : Nat) _ hv (enters_of Tryz.func197 (by kernel_rfl) rfl)
    (fun hy _ W tv hr hb => beat_any tv t W hr ((vld_iff t).1 hy))
  have H := Lib.hid HA
  clear HA hv
  go_enter Tryz.func150, Tryz.ntmps150
  go_wp2_with (go_at_call 196; refine H.out.mono ?_; rintro e w1 ⟨rfl, hb1⟩)
  go_ret2
  exact ⟨rfl, hb1⟩

end Go.Proofs.YtdfkaijeppdhaaaGreatDoor.Td

/- Contracts: the reference's Valid, IsHour, speed, drift, round, far, and Speed, Drift, Round, Net. -/
namespace Go.Proofs.YtdfkaijeppdhaaaGreatDoor.Td
open Go.RowKit
theorem getD_mem' {l : List Int} {k : Nat} (hk : k < l.length) : l.getD k 0 ∈ l := by
  rw [List.getD_eq_getElem?_getD, List.getElem?_eq_getElem hk]; simp

end Go.Proofs.YtdfkaijeppdhaaaGreatDoor.Td

/- Contracts: Wide and Awake, which every law of tides calls. -/
namespace Go.Proofs.YtdfkaijeppdhaaaGreatDoor.Td
open Go.RowKit
/-- Whether a tide is too wide for a statement: the answer of Wide. -/
def wide (t : List (List Int)) : Bool := (t.any fun l => decide (40 < l.length)) || decide (20 < t.length)

end Go.Proofs.YtdfkaijeppdhaaaGreatDoor.Td

/- Contracts: the speeds of a beat (Once), of the program and of the reference; the reference's Round, Net, Beat; SameInts. -/
namespace Go.Proofs.YtdfkaijeppdhaaaGreatDoor.Td
open Go.RowKit
theorem Tryz.infoInt : (Tryz.prog.info? 3).map (fun i => (i.zero, i.size, i.bytes)) = some (some (.int .i64 0), 1, 8) := by kernel_rfl

end Go.Proofs.YtdfkaijeppdhaaaGreatDoor.Td

/- Contracts: the reference's beat, Beat, Once, Round, Net; SameInts. -/
namespace Go.Proofs.YtdfkaijeppdhaaaGreatDoor.Td
open Go.RowKit
theorem ints_cell {w : World} {v : Value} {l : List Int} (h : IntsAt w v l) (h0 : 0 < l.length) :
    ∃ b off cap, v = .slice (some ⟨b, off, none⟩) l.length cap ∧ ∀ j, j < l.length → w.cell? ⟨b, off + j, none⟩ = some (.int .i64 (l.getD j 0)) := by
  obtain ⟨a, cap, rfl, _, hq⟩ := h
  obtain ⟨b, off, rfl, hc⟩ := hq h0
  exact ⟨b, off, cap, rfl, hc⟩


end Go.Proofs.YtdfkaijeppdhaaaGreatDoor.Td
