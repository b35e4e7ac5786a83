/- Contracts: Slack, Highest, Farthest, of the program and of the reference. -/
import Derived.Test.YtflhpnhehaokpaaS
namespace Go.Proofs.Ytflhpnhehaokpaa
open Go.RowKit

/-- m is the greatest number of a list. -/
structure IsMx (l : List Int) (m : Int) : Prop where
  le : ∀ j, j < l.length → l.getD j 0 ≤ m
  at' : ∃ j, j < l.length ∧ l.getD j 0 = m

def GivesMx (l : List Int) (w : World) (e : Ending) (w' : World) : Prop := ∃ m, e = .returned (.int .i64 m) ∧ IsMx l m ∧ w = w'

set_option maxHeartbeats 400000 in
theorem max_any (v : Value) (l : List Int) (w : World) (hv : IntsAt w v l) (h0 : 0 < l.length) :
    Calls Try.prog 94 #[v] w (GivesMx l w) := by
  have hl := hv.choose_spec.choose_spec.2.1
  obtain ⟨b, off, cap, rfl, hc⟩ := ints_cell hv h0
  have hc0 := hc 0 h0
  rw [Nat.add_zero] at hc0
  generalize hx0 : l.getD 0 0 = x0 at hc0
  have X0 := Lib.hid hx0
  clear hx0 hv
  have hlen : ¬ (l.length : Int) < 1 := by omega
  go_enter Try.func94, Try.ntmps94
  go_wp2
  go_loop [3, 4] (fun s i => ∃ (k : Nat) (m : Int), 1 ≤ k ∧ k ≤ l.length ∧ i = .int .i64 k ∧ s = .int .i64 m ∧ Hid ((∀ j, j < k → l.getD j 0 ≤ m) ∧ ∃ j, j < k ∧ l.getD j 0 = m)) (fun _ i => l.length - (intOf i).toNat)
  case atStart => exact ⟨1, x0, Nat.le_refl _, by omega, rfl, rfl, ⟨fun j hj => by rw [show j = 0 from by omega, X0.out]; exact Int.le_refl _, 0, by omega, X0.out⟩⟩
  case round =>
    obtain ⟨k, m, hk1, hk, rfl, rfl, H⟩ := hrel
    by_cases hlt : k < l.length
    · have hcell := hc k hlt
      generalize hx : l.getD k 0 = x at hcell
      have X := Lib.hid hx
      clear hx hc hc0 hlen
      by_cases hm : m ≤ x
      · have ST : Hid ((∀ j, j < k + 1 → l.getD j 0 ≤ x) ∧ ∃ j, j < k + 1 ∧ l.getD j 0 = x) := ⟨fun j hj => by
          rcases Nat.lt_succ_iff_lt_or_eq.1 hj with h | rfl
          · have := H.out.1 j h; omega
          · rw [X.out]; exact Int.le_refl _, k, by omega, X.out⟩
        go_wp2
        all_goals go_round
        case rel => exact ⟨k + 1, x, by omega, by omega, by go_num, by go_num, ST⟩
        case measure => simp [intOf]; omega
      · have ST : Hid ((∀ j, j < k + 1 → l.getD j 0 ≤ m) ∧ ∃ j, j < k + 1 ∧ l.getD j 0 = m) := ⟨fun j hj => by
          rcases Nat.lt_succ_iff_lt_or_eq.1 hj with h | rfl
          · exact H.out.1 j h
          · rw [X.out]; omega, by obtain ⟨j, h1, h2⟩ := H.out.2; exact ⟨j, by omega, h2⟩⟩
        go_wp2
        all_goals go_round
        case rel => exact ⟨k + 1, m, by omega, by omega, by go_num, by go_num, ST⟩
        case measure => simp [intOf]; omega
    · have e : k = l.length := by omega
      subst e
      go_wp2
      go_ret
      exact ⟨m, rfl, ⟨H.out.1, H.out.2⟩, rfl⟩

set_option maxHeartbeats 400000 in
theorem index_any (v : Value) (l : List Int) (m : Int) (w : World) (hv : IntsAt w v l) :
    Calls Try.prog 95 #[v, .int .i64 m] w fun e w' => e = .returned (.int .i64 (fidx (fun x => m == x) l)) ∧ w = w' := by
  obtain ⟨a, cap, rfl, hl, hq⟩ := hv
  go_enter Try.func95, Try.ntmps95
  go_wp2
  go_loop [8] (fun i => ∃ k : Nat, k ≤ l.length ∧ i = .int .i64 k ∧ Hid (∀ j, j < k → (m == l.getD j 0) = false)) (fun i => l.length - (intOf i).toNat)
  case atStart => exact ⟨0, Nat.zero_le _, rfl, fun j hj => by omega⟩
  case round =>
    obtain ⟨k, hk, rfl, HN⟩ := hrel
    by_cases hlt : k < l.length
    · obtain ⟨b, off, rfl, hc⟩ := hq (by omega)
      have hcell := hc k hlt
      clear hc hq
      generalize hx : l.getD k 0 = x at hcell
      have X := Lib.hid hx
      clear hx
      cases hp : (m == x) with
      | true =>
        have F := Lib.hid (fidx_hit (fun x => m == x) l k 0 hlt HN.out (by show (m == l.getD k 0) = true; rw [X.out]; exact hp))
        go_wp2
        go_ret
        exact ⟨ret_i F.out.symm, rfl⟩
      | false =>
        have P := Lib.hid hp
        go_wp2
        go_round
        case rel => exact ⟨k + 1, by omega, by go_num, fun j hj => by
          rcases Nat.lt_succ_iff_lt_or_eq.1 hj with h | rfl
          · exact HN.out j h
          · rw [X.out]; exact P.out⟩
        case measure => simp [intOf]; omega
    · have e : k = l.length := by omega
      subst e
      go_wp2
      go_ret
      exact ⟨ret_i (fidx_pre (fun x => m == x) l 0 HN.out).symm, rfl⟩

theorem isMx_first {l : List Int} {m : Int} (h : IsMx l m) : ∃ i : Nat, fidx (fun x => m == x) l = i ∧ IsFM (fun k => l.getD k 0) l.length i m := by
  obtain ⟨j, hj, he⟩ := h.at'
  have : ∃ k : Nat, (k < l.length ∧ l.getD k 0 = m) ∧ ∀ i : Nat, i < k → ¬ (i < l.length ∧ l.getD i 0 = m) := by
    clear h
    induction j using Nat.strongRecOn with
    | ind k ih =>
      by_cases hx : ∃ i : Nat, i < k ∧ i < l.length ∧ l.getD i 0 = m
      · obtain ⟨i, h1, h2, h3⟩ := hx
        exact ih i h1 h2 h3
      · exact ⟨k, ⟨hj, he⟩, fun i h1 h2 => hx ⟨i, h1, h2⟩⟩
  obtain ⟨k, ⟨h1, h2⟩, h3⟩ := this
  refine ⟨k, fidx_hit _ l k 0 h1 (fun i hi => ?_) (by show (m == l.getD k 0) = true; rw [h2]; simp), h1, h2, h.le, fun i hi => ?_⟩
  · have := h3 i hi
    simp only [beq_eq_false_iff_ne]
    exact fun e => this ⟨by omega, e.symm⟩
  · have a := h.le i (by omega)
    have b := h3 i hi
    have : l.getD i 0 ≠ m := fun e => b ⟨by omega, e⟩
    omega

/-- An hour, and what is found there. -/
def foundV (i m : Int) : Value := .agg #[.int .i64 i, .int .i64 m]
def GivesF (f : Nat → Int) (n : Nat) (w : World) (e : Ending) (w' : World) : Prop := ∃ (i : Nat) (m : Int), e = .returned (.agg #[.int .i64 i, .int .i64 m]) ∧ IsFM f n i m ∧ Below w.heap.size w w'

set_option maxHeartbeats 400000 in
theorem first_any (v : Value) (l : List Int) (w : World) (hv : IntsAt w v l) (h0 : 0 < l.length) :
    Calls Try.prog 85 #[v] w (GivesF (fun k => l.getD k 0) l.length w) := by
  have hal : Below w.heap.size w (w.alloc (.cells #[.int .i64 0, .int .i64 0] 81)) := (Below.refl _ w).alloc (Nat.le_refl _) _
  have hv1 := hv.below hal
  go_enter Try.func85, Try.ntmps85
  go_wp2_with (first
    | (go_at_call 94; refine (max_any _ _ _ hv1 h0).mono ?_; rintro e w1 ⟨m, rfl, hm, rfl⟩; obtain ⟨i, hi, hF⟩ := isMx_first hm; have HI := Lib.hid hi; clear hi hm)
    | (go_at_call 95; refine (index_any _ _ _ _ hv1).mono ?_; rintro e w1 ⟨rfl, rfl⟩; rw [HI.out]))
  refine bodyPost_ret (v := .agg #[.int .i64 i, .int .i64 m]) (by simp [results, Try.results85, go_sem]) rfl ⟨i, m, rfl, hF, ?_⟩
  repeat (first | assumption | exact Below.refl _ _ | refine Below.setCell ?_ (by simp) _ | refine Below.alloc ?_ (by simp) _)

end Go.Proofs.Ytflhpnhehaokpaa
