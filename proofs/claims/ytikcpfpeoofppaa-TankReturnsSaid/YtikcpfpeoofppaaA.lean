/- Contracts of the leaves: between, within, which tanks are valid. -/
import Derived.Test.YtikcpfpeoofppaaData
import Derived.Test.YtikcpfpeoofppaaProg
import Derived.KernelRfl
import Derived.BigQuiet
import Derived.Lib.Hide
import Derived.Deep.QuietTactic
namespace Go.Proofs.Ytikcpfpeoofppaa
open Go.RowKit

theorem ret_b {a b : Bool} (h : a = b) : Ending.returned (.bool a) = .returned (.bool b) := by rw [h]
theorem ret_i {a b : Int} (h : a = b) : Ending.returned (.int .i64 a) = .returned (.int .i64 b) := by rw [h]

/-- The test a ≤ b ≤ c. -/
def betw (a b c : Int) : Bool := decide (a ≤ b) && decide (b ≤ c)

set_option maxHeartbeats 400000 in
theorem between_any (a b c : Int) (w : World) :
    Calls Try.prog 53 #[.int .i64 a, .int .i64 b, .int .i64 c] w fun e w' => e = .returned (.bool (betw a b c)) ∧ w = w' := by
  unfold betw
  by_cases h1 : a ≤ b
  · by_cases h2 : b ≤ c
    · go_enter Try.func53, Try.ntmps53
      go_wp2
      go_ret
      exact ⟨by simp [h1, h2], rfl⟩
    · go_enter Try.func53, Try.ntmps53
      go_wp2
      go_ret
      exact ⟨by simp [h2], rfl⟩
  · go_enter Try.func53, Try.ntmps53
    go_wp2
    go_ret
    exact ⟨by rw [decide_eq_false (show ¬ a ≤ b by omega)]; rfl, rfl⟩

set_option maxHeartbeats 400000 in
theorem within_any (a b c : Int) (w : World) :
    Calls Try.prog 56 #[.int .i64 a, .int .i64 b, .int .i64 c] w fun e w' => e = .returned (.bool (betw a b c)) ∧ w = w' := by
  unfold betw
  by_cases h1 : a ≤ b
  · by_cases h2 : b ≤ c
    · go_enter Try.func56, Try.ntmps56
      go_wp2
      go_ret
      exact ⟨by simp [h1, h2], rfl⟩
    · go_enter Try.func56, Try.ntmps56
      go_wp2
      go_ret
      exact ⟨by simp [h2], rfl⟩
  · go_enter Try.func56, Try.ntmps56
    go_wp2
    go_ret
    exact ⟨by rw [decide_eq_false (show ¬ a ≤ b by omega)]; rfl, rfl⟩

/-- The first index at which p holds, or -1. -/
def fidx {α : Type} (p : α → Bool) : List α → Int
  | [] => -1
  | x :: l => if p x then 0 else (if fidx p l < 0 then -1 else fidx p l + 1)

theorem fidx_any {α : Type} (p : α → Bool) : ∀ l : List α, decide (0 ≤ fidx p l) = l.any p
  | [] => by simp [fidx]
  | x :: l => by
    have ih := fidx_any p l
    unfold fidx
    rw [List.any_cons]
    cases hp : p x with
    | true => simp
    | false =>
      simp only [Bool.false_eq_true, if_false, Bool.false_or]
      rw [← ih]
      split <;> rename_i h <;> simp <;> omega

theorem fidx_none {α : Type} (p : α → Bool) : ∀ l : List α, (∀ x ∈ l, p x = false) → fidx p l = -1
  | [], _ => rfl
  | x :: l, h => by
    unfold fidx
    rw [h x (by simp), fidx_none p l (fun y hy => h y (by simp [hy]))]
    simp

theorem fidx_hit {α : Type} (p : α → Bool) : ∀ (l : List α) (k : Nat) (d : α), k < l.length → (∀ i, i < k → p (l.getD i d) = false) → p (l.getD k d) = true → fidx p l = k
  | [], k, d, h, _, _ => by simp at h
  | x :: l, 0, d, _, _, h => by
    unfold fidx
    rw [List.getD_cons_zero] at h
    simp [h]
  | x :: l, k + 1, d, hk, hn, h => by
    have h0 := hn 0 (by omega)
    rw [List.getD_cons_zero] at h0
    have ih := fidx_hit p l k d (by simpa using hk) (fun i hi => by simpa using hn (i + 1) (by omega)) (by simpa using h)
    unfold fidx
    rw [h0, ih]
    simp only [Bool.false_eq_true, if_false]
    rw [if_neg (by omega)]
    omega

theorem fidx_pre {α : Type} (p : α → Bool) (l : List α) (d : α) (h : ∀ i, i < l.length → p (l.getD i d) = false) : fidx p l = -1 :=
  fidx_none p l fun x hx => by
    obtain ⟨i, hi, rfl⟩ := List.getElem_of_mem hx
    have := h i hi
    rwa [List.getD_eq_getElem?_getD, List.getElem?_eq_getElem hi] at this

/-- A number that no tank holds. -/
def nohold (n : Int) : Bool := !(betw 1 n 12)

set_option maxHeartbeats 400000 in
theorem nohold_any (n : Int) (w : World) :
    Calls Try.prog 77 #[.int .i64 n] w fun e w' => e = .returned (.bool (nohold n)) ∧ w = w' := by
  unfold nohold
  go_enter Try.func77, Try.ntmps77
  go_wp2_with (go_at_call 53; refine (between_any _ _ _ _).mono ?_; rintro e w' ⟨rfl, rfl⟩)
  go_ret
  exact ⟨rfl, rfl⟩

set_option maxHeartbeats 400000 in
theorem idxTank_any (v : Value) (l : List Int) (w : World) (hv : IntsAt w v l) :
    Calls Try.prog 90 #[v, .func (.func 77) #[] #[]] w fun e w' => e = .returned (.int .i64 (fidx nohold l)) ∧ w = w' := by
  obtain ⟨a, cap, rfl, hl, hq⟩ := hv
  go_enter Try.func90, Try.ntmps90
  go_wp2
  go_loop [8] (fun i => ∃ k : Nat, k ≤ l.length ∧ i = .int .i64 k ∧ ∀ j, j < k → nohold (l.getD j 0) = false) (fun i => l.length - (intOf i).toNat)
  case atStart => exact ⟨0, Nat.zero_le _, rfl, fun j hj => by omega⟩
  case round =>
    obtain ⟨k, hk, rfl, hn⟩ := hrel
    by_cases hlt : k < l.length
    · obtain ⟨b, off, rfl, hc⟩ := hq (by omega)
      have hcell := hc k hlt
      clear hc hq
      have HN := Lib.hid hn
      clear hn
      generalize hx : l.getD k 0 = x at hcell
      have X := Lib.hid hx
      clear hx
      cases hp : nohold x with
      | true =>
        have P := Lib.hid hp
        clear hp
        go_wp2_with (go_at_call 77; refine (nohold_any _ _).mono ?_; rintro e w' ⟨rfl, rfl⟩; rw [P.out])
        go_ret
        exact ⟨ret_i (fidx_hit nohold l k 0 hlt HN.out (by rw [X.out]; exact P.out)).symm, rfl⟩
      | false =>
        have P := Lib.hid hp
        clear hp
        go_wp2_with (go_at_call 77; refine (nohold_any _ _).mono ?_; rintro e w' ⟨rfl, rfl⟩; rw [P.out])
        go_round
        case rel => exact ⟨k + 1, by omega, by go_num, fun j hj => by
          rcases Nat.lt_succ_iff_lt_or_eq.1 hj with h | rfl
          · exact HN.out j h
          · rw [X.out]; exact P.out⟩
        case measure => simp [intOf]; omega
    · have e : k = l.length := by omega
      subst e
      go_wp2
      go_ret
      exact ⟨ret_i (fidx_pre nohold l 0 hn).symm, rfl⟩

set_option maxHeartbeats 400000 in
theorem contTank_any (v : Value) (l : List Int) (w : World) (hv : IntsAt w v l) :
    Calls Try.prog 76 #[v, .func (.func 77) #[] #[]] w fun e w' => e = .returned (.bool (l.any nohold)) ∧ w = w' := by
  have E := Lib.hid (fidx_any nohold l)
  go_enter Try.func76, Try.ntmps76
  go_wp2_with (go_at_call 90; refine (idxTank_any _ _ _ hv).mono ?_; rintro e w' ⟨rfl, rfl⟩)
  go_ret
  exact ⟨by rw [← E.out]; rfl, rfl⟩

theorem betw_iff (a b c : Int) : betw a b c = true ↔ a ≤ b ∧ b ≤ c := by simp [betw]


/-- The tanks are valid. -/
def tvl (t : List Int) : Bool := betw 2 t.length 4 && !t.any nohold

/-- What valid tanks are. -/
structure Tvl (t : List Int) : Prop where
  lo : 2 ≤ t.length
  hi : t.length ≤ 4
  holds : ∀ n ∈ t, 1 ≤ n ∧ n ≤ 12

theorem tvl_iff (t : List Int) : tvl t = true ↔ Tvl t := by
  unfold tvl
  rw [Bool.and_eq_true, betw_iff]
  constructor
  · rintro ⟨h, k⟩
    refine ⟨by omega, by omega, fun n hn => ?_⟩
    simp only [Bool.not_eq_true', List.any_eq_false] at k
    have := k n hn
    simpa [nohold, betw] using this
  · rintro ⟨h1, h2, h3⟩
    refine ⟨by omega, ?_⟩
    simp only [Bool.not_eq_true', List.any_eq_false]
    intro n hn
    have := h3 n hn
    simp [nohold, betw, this]

set_option maxHeartbeats 400000 in
theorem valid_any (v : Value) (t : List Int) (w : World) (hv : IntsAt w v t) :
    Calls Try.prog 38 #[v] w fun e w' => e = .returned (.bool (tvl t)) ∧ w = w' := by
  unfold tvl
  obtain ⟨a, cap, rfl, hr⟩ := id hv
  have hv' : IntsAt w (.slice a t.length cap) t := hv
  clear hv
  cases hb : betw 2 t.length 4 with
  | true =>
    have B := Lib.hid hb
    clear hb
    go_enter Try.func38, Try.ntmps38
    go_wp2_with (first | (go_at_call 53; refine (between_any _ _ _ _).mono ?_; rintro e w' ⟨rfl, rfl⟩; rw [B.out]) | (go_at_call 76; refine (contTank_any _ _ _ hv').mono ?_; rintro e w' ⟨rfl, rfl⟩))
    go_ret
    exact ⟨rfl, rfl⟩
  | false =>
    have B := Lib.hid hb
    clear hb
    go_enter Try.func38, Try.ntmps38
    go_wp2_with (first | (go_at_call 53; refine (between_any _ _ _ _).mono ?_; rintro e w' ⟨rfl, rfl⟩; rw [B.out]))
    go_ret
    exact ⟨rfl, rfl⟩

theorem tvl_bad {t : List Int} {k : Nat} (hk : k < t.length) (h : nohold (t.getD k 0) = true) : tvl t = false := by
  unfold tvl
  have : t.any nohold = true := List.any_eq_true.2 ⟨_, by rw [List.getD_eq_getElem?_getD, List.getElem?_eq_getElem hk]; simp, h⟩
  rw [this]; simp

theorem tvl_good {t : List Int} (h : ∀ j, j < t.length → nohold (t.getD j 0) = false) : tvl t = betw 2 t.length 4 := by
  unfold tvl
  have : t.any nohold = false := List.any_eq_false.2 fun x hx => by
    obtain ⟨i, hi, rfl⟩ := List.getElem_of_mem hx
    have := h i hi
    rw [List.getD_eq_getElem?_getD, List.getElem?_eq_getElem hi] at this
    simpa using this
  rw [this]; simp

theorem tvl_long {t : List Int} (h : 4 < t.length) : tvl t = betw 2 t.length 4 := by
  unfold tvl
  have : betw 2 t.length 4 = false := by simp [betw]; omega
  rw [this]; rfl

set_option maxHeartbeats 400000 in
theorem rValid_any (v : Value) (t : List Int) (w : World) (hv : IntsAt w v t) :
    Calls Try.prog 39 #[v] w fun e w' => e = .returned (.bool (tvl t)) ∧ w = w' := by
  obtain ⟨a, cap, rfl, hl, hq⟩ := hv
  go_enter Try.func39, Try.ntmps39
  go_wp2
  go_loop [3] (fun i => ∃ k : Nat, k ≤ t.length ∧ k ≤ 5 ∧ i = .int .i64 k ∧ ∀ j, j < k → nohold (t.getD j 0) = false) (fun i => t.length - (intOf i).toNat)
  case atStart => exact ⟨0, Nat.zero_le _, by omega, rfl, fun j hj => by omega⟩
  case round =>
    obtain ⟨k, hk, hk5, rfl, hn⟩ := hrel
    have HN := Lib.hid hn
    clear hn
    by_cases hlt : k < t.length ∧ k ≤ 4
    · obtain ⟨hlt, h4⟩ := hlt
      obtain ⟨b, off, rfl, hc⟩ := hq (by omega)
      have hcell := hc k hlt
      clear hc hq
      generalize hx : t.getD k 0 = x at hcell
      have X := Lib.hid hx
      clear hx
      cases hp : betw 1 x 12 with
      | true =>
        have P := Lib.hid hp
        clear hp
        go_wp2_with (go_at_call 56; refine (within_any _ _ _ _).mono ?_; rintro e w' ⟨rfl, rfl⟩; rw [P.out])
        go_round
        case rel => exact ⟨k + 1, by omega, by omega, by go_num, fun j hj => by
          rcases Nat.lt_succ_iff_lt_or_eq.1 hj with h | rfl
          · exact HN.out j h
          · rw [X.out]; unfold nohold; rw [P.out]; rfl⟩
        case measure => simp [intOf]; omega
      | false =>
        have P := Lib.hid hp
        clear hp
        have E := Lib.hid (tvl_bad hlt (show nohold (t.getD k 0) = true by rw [X.out]; unfold nohold; rw [P.out]; rfl))
        go_wp2_with (go_at_call 56; refine (within_any _ _ _ _).mono ?_; rintro e w' ⟨rfl, rfl⟩; rw [P.out])
        go_ret
        exact ⟨ret_b E.out.symm, rfl⟩
    · have E : Hid (tvl t = betw 2 t.length 4) := Lib.hid (by
        by_cases h4 : 4 < t.length
        · exact tvl_long h4
        · exact tvl_good (fun j hj => HN.out j (by omega)))
      by_cases hlt2 : k < t.length
      · have h5 : ¬ k ≤ 4 := fun h => hlt ⟨hlt2, h⟩
        clear hlt
        go_wp2_with (go_at_call 56; refine (within_any _ _ _ _).mono ?_; rintro e w' ⟨rfl, rfl⟩)
        go_ret
        exact ⟨ret_b E.out.symm, rfl⟩
      · have e : k = t.length := by omega
        subst e
        clear hlt
        go_wp2_with (go_at_call 56; refine (within_any _ _ _ _).mono ?_; rintro e w' ⟨rfl, rfl⟩)
        go_ret
        exact ⟨ret_b E.out.symm, rfl⟩

theorem ints_two (w : World) (a b : Int) (e : TypeId) : IntsAt (w.alloc (.cells #[.int .i64 a, .int .i64 b] e)) (.slice (some ⟨w.heap.size, 0, none⟩) 2 2) [a, b] := by
  refine ⟨_, 2, rfl, by simp, fun _ => ⟨w.heap.size, 0, rfl, fun j hj => ?_⟩⟩
  rcases j with _ | _ | j
  · simp
  · simp
  · simp at hj; omega

end Go.Proofs.Ytikcpfpeoofppaa
