/- Contracts: which ratios are awards, of both. -/
import Derived.Test.YtaakefjblldccaaF
namespace Go.Proofs.Ytaakefjblldccaa
open Go.RowKit

/-- A ratio is one of awards as described. -/
def awd (x : Rat2) : Bool := betw (-1000000000) x.1 1000000000 && betw 1 x.2 1000000
def noawd (x : Rat2) : Bool := !awd x

set_option maxHeartbeats 1000000 in
theorem isAward_any (n d : Int) (w : World) :
    Calls Try.prog 93 #[.agg #[.int .i64 n, .int .i64 d]] w fun e w' => e = .returned (.bool (awd (n, d))) ∧ Below w.heap.size w w' := by
  unfold awd
  cases hb : betw (-1000000000) n 1000000000 with
  | false =>
    have B := Lib.hid hb
    clear hb
    go_enter Try.func93, Try.ntmps93
    go_wp2_with fail
    refine (between_any _ _ _ _).mono ?_
    rintro e w' ⟨rfl, rfl⟩
    rw [B.out]
    go_wp2
    go_ret
    exact ⟨rfl, (Below.refl _ _).alloc (Nat.le_refl _) _⟩
  | true =>
    have B := Lib.hid hb
    clear hb
    go_enter Try.func93, Try.ntmps93
    go_wp2_with fail
    refine (between_any _ _ _ _).mono ?_
    rintro e w' ⟨rfl, rfl⟩
    rw [B.out]
    go_wp2_with fail
    refine (between_any _ _ _ _).mono ?_
    rintro e w' ⟨rfl, rfl⟩
    go_wp2
    go_ret
    exact ⟨rfl, (Below.refl _ _).alloc (Nat.le_refl _) _⟩

set_option maxHeartbeats 1000000 in
theorem noAward_any (n d : Int) (w : World) :
    Calls Try.prog 92 #[.agg #[.int .i64 n, .int .i64 d]] w fun e w' => e = .returned (.bool (noawd (n, d))) ∧ Below w.heap.size w w' := by
  have hal : Below w.heap.size w (w.alloc (.cells #[.int .i64 n, .int .i64 d] 23)) := (Below.refl _ w).alloc (Nat.le_refl _) _
  unfold noawd
  go_enter Try.func92, Try.ntmps92
  go_wp2_with fail
  refine (isAward_any _ _ _).mono ?_
  rintro e w1 ⟨rfl, hb1⟩
  go_wp2
  go_ret
  exact ⟨rfl, below_trans hal hb1⟩

set_option maxHeartbeats 1000000 in
theorem idxRat_any (v : Value) (l : List Rat2) (w : World) (hv : RatsAt w v l) :
    Calls Try.prog 112 #[v, .func (.func 92) #[] #[]] w fun e w' => e = .returned (.int .i64 (fidx noawd l)) ∧ Below w.heap.size w w' := by
  obtain ⟨a, cap, rfl, hl, hq⟩ := hv
  go_enter Try.func112, Try.ntmps112
  go_wp2
  go_loopw [8] (fun i wr => ∃ k : Nat, k ≤ l.length ∧ i = .int .i64 k ∧ Hid (∀ j, j < k → noawd (l.getD j (0, 0)) = false) ∧ Below w.heap.size w wr) (fun i _ => l.length - (intOf i).toNat)
  case atStart => exact ⟨0, Nat.zero_le _, rfl, Lib.hid (fun j hj => by omega), Below.refl _ _⟩
  case round =>
    obtain ⟨k, hk, rfl, HN, hbel⟩ := hrel
    by_cases hlt : k < l.length
    · obtain ⟨b, off, rfl, hc⟩ := hq (by omega)
      obtain ⟨x0, d0⟩ := hc k hlt
      have x1 := keep_cell hbel x0
      have d1 := keep_cell hbel d0
      clear hc hq x0 d0
      generalize hx : l.getD k (0, 0) = xd at *
      obtain ⟨x, d⟩ := xd
      simp only at x1 d1
      have X := Lib.hid hx
      clear hx
      cases hp : noawd (x, d) with
      | true =>
        have P := Lib.hid hp
        clear hp
        go_wp2_with fail
        refine (noAward_any _ _ _).mono ?_
        rintro e w1 ⟨rfl, hb1⟩
        rw [P.out]
        go_wp2
        go_ret
        exact ⟨ret_i (fidx_hit noawd l k (0, 0) hlt HN.out (by rw [X.out]; exact P.out)).symm, below_trans hbel hb1⟩
      | false =>
        have P := Lib.hid hp
        clear hp
        go_wp2_with fail
        refine (noAward_any _ _ _).mono ?_
        rintro e w1 ⟨rfl, hb1⟩
        rw [P.out]
        go_wp2
        go_roundw
        case rel => exact ⟨k + 1, by omega, by go_num, Lib.hid (fun j hj => by
          rcases Nat.lt_succ_iff_lt_or_eq.1 hj with h | rfl
          · exact HN.out j h
          · rw [X.out]; exact P.out), below_trans hbel hb1⟩
        case measure => simp [intOf]; omega
    · have e : k = l.length := by omega
      subst e
      go_wp2
      go_ret
      exact ⟨ret_i (fidx_pre noawd l (0, 0) HN.out).symm, hbel⟩

set_option maxHeartbeats 1000000 in
theorem contRat_any (v : Value) (l : List Rat2) (w : World) (hv : RatsAt w v l) :
    Calls Try.prog 91 #[v, .func (.func 92) #[] #[]] w fun e w' => e = .returned (.bool (l.any noawd)) ∧ Below w.heap.size w w' := by
  have E := Lib.hid (fidx_any noawd l)
  go_enter Try.func91, Try.ntmps91
  go_wp2_with fail
  refine (idxRat_any _ _ _ hv).mono ?_
  rintro e w1 ⟨rfl, hb1⟩
  go_wp2
  go_ret
  exact ⟨by rw [← E.out]; rfl, hb1⟩

end Go.Proofs.Ytaakefjblldccaa
