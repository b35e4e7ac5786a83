/- Contracts: Wide and Awake, which every law of tides calls. -/
import Derived.Test.YtbgflacfemeblaaDoorF
namespace Go.Proofs.YtbgflacfemeblaaDoor
open Go.RowKit

/-- Whether a tide is too wide for a statement: the answer of Wide. -/
def wide (t : List (List Int)) : Bool := (t.any fun l => decide (40 < l.length)) || decide (20 < t.length)

theorem wide_hit {t : List (List Int)} {k : Nat} (hk : k < t.length) (h : 40 < (t.getD k []).length) : wide t = true := by
  unfold wide
  rw [List.any_eq_true.2 ⟨_, getD_mem hk, by simpa using h⟩]; rfl

theorem wide_end {t : List (List Int)} (h : ∀ j, j < t.length → ¬ 40 < (t.getD j []).length) : wide t = decide (20 < t.length) := by
  unfold wide
  have : (t.any fun l => decide (40 < l.length)) = false := by
    rw [List.any_eq_false]
    intro l hl
    obtain ⟨i, hi, rfl⟩ := List.getElem_of_mem hl
    have := h i hi
    rw [List.getD_eq_getElem?_getD, List.getElem?_eq_getElem hi] at this
    simpa using this
  rw [this, Bool.false_or]

theorem vld_not_wide {t : List (List Int)} (h : Vld t) : wide t = false := by
  unfold wide
  have h1 : (t.any fun l => decide (40 < l.length)) = false := by
    rw [List.any_eq_false]
    intro l hl
    have := (h.wave l hl).2.1
    simp; omega
  have := h.hi
  rw [h1, Bool.false_or]
  simp; omega

set_option maxHeartbeats 400000 in
theorem wide_any (v : Value) (t : List (List Int)) (w : World) (hv : RowsAt w v t) :
    Calls Tryd.prog 4 #[v] w fun e w' => e = .returned (.bool (wide t)) ∧ w = w' := by
  obtain ⟨a, cap, rfl, hl, hq⟩ := hv
  go_enter Tryd.func4, Tryd.ntmps4
  go_wp2
  go_loop [7] (fun i => ∃ k : Nat, k ≤ t.length ∧ i = .int .i64 k ∧ Hid (∀ j, j < k → ¬ 40 < (t.getD j []).length)) (fun i => t.length - (intOf i).toNat)
  case atStart => exact ⟨0, Nat.zero_le _, rfl, fun j hj => by omega⟩
  case round =>
    obtain ⟨k, hk, rfl, H⟩ := hrel
    by_cases hlt : k < t.length
    · obtain ⟨b, off, rfl, hc⟩ := hq (by omega)
      obtain ⟨x, hx, hi⟩ := hc k hlt
      clear hc hq
      have B := Lib.hid (fun h => wide_hit hlt h)
      generalize hlk : t.getD k [] = lk at *
      have LK := Lib.hid hlk
      clear hlk
      obtain ⟨ra, rc, rfl, hrl, hrq⟩ := hi
      clear hrq
      by_cases h1 : 40 < lk.length
      · go_wp2
        go_ret
        exact ⟨ret_b (by rw [B.out h1]), rfl⟩
      · go_wp2
        go_round
        case rel => exact ⟨k + 1, by omega, by go_num, fun j hj => by
          rcases Nat.lt_succ_iff_lt_or_eq.1 hj with h | rfl
          · exact H.out j h
          · rw [LK.out]; exact h1⟩
        case measure => simp [intOf]; omega
    · have e : k = t.length := by omega
      subst e
      have E := Lib.hid (wide_end H.out)
      go_wp2
      go_ret
      exact ⟨ret_b (by rw [E.out]; apply decide_eq_decide.2; omega), rfl⟩

/-- The tide of the sanity check. -/
def t0 : List (List Int) := [[3, 0, -3], [1, -1]]
theorem t0_qe : qe t0 true = 0 := by decide
theorem t0_vld : vld t0 = true := by decide
theorem t0_rnd : rnd t0 = 6 := by decide +kernel
theorem t0_qi : qi t0 true (rnd t0 : Nat) = 6 := by rw [t0_rnd]; decide

theorem ints_new (w : World) (l : List Int) (cs : Array Value) (n m : Nat) (t : TypeId) (hcs : cs = (l.map (Value.int .i64)).toArray) (hl : l.length ≤ 1000) (hn : n = l.length) (hm : m = w.heap.size) :
    IntsAt (w.alloc (.cells cs t)) (.slice (some ⟨m, 0, none⟩) n n) l := by
  subst hn hcs hm
  refine ⟨_, _, rfl, by omega, fun h0 => ⟨_, _, rfl, fun j hj => ?_⟩⟩
  rw [World.cell?_alloc_at _ _ _ _ rfl]
  simp [List.getD_eq_getElem?_getD, hj]

theorem rows_new (w : World) (t : List (List Int)) (vs : List Value) (cs : Array Value) (n m : Nat) (k : TypeId) (hcs : cs = vs.toArray) (hv : vs.length = t.length) (hl : t.length ≤ 1000) (hn : n = t.length) (hm : m = w.heap.size)
    (h : ∀ i, i < t.length → IntsAt w (vs.getD i undef) (t.getD i [])) : RowsAt (w.alloc (.cells cs k)) (.slice (some ⟨m, 0, none⟩) n n) t := by
  subst hn hcs hm
  refine ⟨_, _, rfl, by omega, fun h0 => ⟨_, _, rfl, fun j hj => ⟨vs.getD j undef, ?_, (h j hj).below ((Below.refl _ w).alloc (Nat.le_refl _) _)⟩⟩⟩
  rw [World.cell?_alloc_at _ _ _ _ rfl, Nat.zero_add]
  simp [List.getD_eq_getElem?_getD, hv, hj]

set_option maxHeartbeats 400000 in
theorem awake_any (w : World) :
    Calls Tryd.prog 5 #[] w fun e w' => e = .returned (.bool true) ∧ Below w.heap.size w w' := by
  have h1 := ints_new w [3, 0, -3] #[.int .i64 3, .int .i64 0, .int .i64 (-3)] 3 _ 3 rfl (by decide) rfl rfl
  have h2 := ints_new (w.alloc (.cells #[.int .i64 3, .int .i64 0, .int .i64 (-3)] 3)) [1, -1] #[.int .i64 1, .int .i64 (-1)] 2 _ 3 rfl (by decide) rfl rfl
  rw [World.size_alloc] at h2
  have h1' := h1.below ((Below.refl _ _).alloc (Nat.le_refl _) (.cells #[.int .i64 1, .int .i64 (-1)] 3))
  have h3 := rows_new ((w.alloc (.cells #[.int .i64 3, .int .i64 0, .int .i64 (-3)] 3)).alloc (.cells #[.int .i64 1, .int .i64 (-1)] 3)) t0
    [.slice (some ⟨w.heap.size, 0, none⟩) 3 3, .slice (some ⟨w.heap.size + 1, 0, none⟩) 2 2] #[.slice (some ⟨w.heap.size, 0, none⟩) 3 3, .slice (some ⟨w.heap.size + 1, 0, none⟩) 2 2] 2 _ 32 rfl rfl (by decide) rfl rfl
    (fun i hi => by
      match i, hi with
      | 0, _ => exact h1'
      | 1, _ => exact h2)
  rw [World.size_alloc, World.size_alloc] at h3
  have hb : Below w.heap.size w (((w.alloc (.cells #[.int .i64 3, .int .i64 0, .int .i64 (-3)] 3)).alloc (.cells #[.int .i64 1, .int .i64 (-1)] 3)).alloc (.cells #[.slice (some ⟨w.heap.size, 0, none⟩) 3 3, .slice (some ⟨w.heap.size + 1, 0, none⟩) 2 2] 32)) :=
    (((Below.refl _ _).alloc (Nat.le_refl _) _).alloc (by simp) _).alloc (by simp; omega) _
  have HC := Lib.hid (tRound_any _ _ _ h3)
  clear h1 h2 h1' h3
  go_enter Tryd.func5, Tryd.ntmps5
  go_wp2_with (go_at_call 11; refine HC.out.mono ?_; rintro e w1 ⟨rfl, hb1⟩; rw [t0_qi, t0_qe])
  go_ret
  exact ⟨rfl, below_trans hb hb1⟩

end Go.Proofs.YtbgflacfemeblaaDoor
