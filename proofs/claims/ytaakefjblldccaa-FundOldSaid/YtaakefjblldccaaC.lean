/- Contracts: which claims are valid; the sum of claims; the first error. -/
import Derived.Test.YtaakefjblldccaaA
namespace Go.Proofs.Ytaakefjblldccaa
open Go.RowKit

/-- The first index at which p holds, or -1. -/
def fidx {α : Type} (p : α → Bool) : List α → Int
  | [] => -1
  | x :: l => if p x then 0 else (if fidx p l < 0 then -1 else fidx p l + 1)

theorem fidx_any {α : Type} (p : α → Bool) : ∀ l : List α, decide (0 ≤ fidx p l) = l.any p
  | [] => by simp [fidx]
  | x :: l => by
    have ih := fidx_any p l
    unfold fidx
    rw [List.any_cons]
    cases hp : p x with
    | true => simp
    | false =>
      simp only [Bool.false_eq_true, if_false, Bool.false_or]
      rw [← ih]
      split <;> rename_i h <;> simp <;> omega

theorem fidx_none {α : Type} (p : α → Bool) : ∀ l : List α, (∀ x ∈ l, p x = false) → fidx p l = -1
  | [], _ => rfl
  | x :: l, h => by
    unfold fidx
    rw [h x (by simp), fidx_none p l (fun y hy => h y (by simp [hy]))]
    simp

theorem fidx_hit {α : Type} (p : α → Bool) : ∀ (l : List α) (k : Nat) (d : α), k < l.length → (∀ i, i < k → p (l.getD i d) = false) → p (l.getD k d) = true → fidx p l = k
  | [], k, d, h, _, _ => by simp at h
  | x :: l, 0, d, _, _, h => by
    unfold fidx
    rw [List.getD_cons_zero] at h
    simp [h]
  | x :: l, k + 1, d, hk, hn, h => by
    have h0 := hn 0 (by omega)
    rw [List.getD_cons_zero] at h0
    have ih := fidx_hit p l k d (by simpa using hk) (fun i hi => by simpa using hn (i + 1) (by omega)) (by simpa using h)
    unfold fidx
    rw [h0, ih]
    simp only [Bool.false_eq_true, if_false]
    rw [if_neg (by omega)]
    omega

theorem fidx_pre {α : Type} (p : α → Bool) (l : List α) (d : α) (h : ∀ i, i < l.length → p (l.getD i d) = false) : fidx p l = -1 :=
  fidx_none p l fun x hx => by
    obtain ⟨i, hi, rfl⟩ := List.getElem_of_mem hx
    have := h i hi
    rwa [List.getD_eq_getElem?_getD, List.getElem?_eq_getElem hi] at this

/-- A number that is no claim. -/
def noclaim (n : Int) : Bool := !(betw 0 n 1000)

set_option maxHeartbeats 400000 in
theorem noclaim_any (n : Int) (w : World) :
    Calls Try.prog 80 #[.int .i64 n] w fun e w' => e = .returned (.bool (noclaim n)) ∧ w = w' := by
  unfold noclaim
  go_enter Try.func80, Try.ntmps80
  go_wp2_with (go_at_call 52; refine (between_any _ _ _ _).mono ?_; rintro e w' ⟨rfl, rfl⟩)
  go_ret
  exact ⟨rfl, rfl⟩

set_option maxHeartbeats 400000 in
theorem idxClaim_any (v : Value) (l : List Int) (w : World) (hv : IntsAt w v l) :
    Calls Try.prog 107 #[v, .func (.func 80) #[] #[]] w fun e w' => e = .returned (.int .i64 (fidx noclaim l)) ∧ w = w' := by
  obtain ⟨a, cap, rfl, hl, hq⟩ := hv
  go_enter Try.func107, Try.ntmps107
  go_wp2
  go_loop [8] (fun i => ∃ k : Nat, k ≤ l.length ∧ i = .int .i64 k ∧ ∀ j, j < k → noclaim (l.getD j 0) = false) (fun i => l.length - (intOf i).toNat)
  case atStart => exact ⟨0, Nat.zero_le _, rfl, fun j hj => by omega⟩
  case round =>
    obtain ⟨k, hk, rfl, hn⟩ := hrel
    by_cases hlt : k < l.length
    · obtain ⟨b, off, rfl, hc⟩ := hq (by omega)
      have hcell := hc k hlt
      clear hc hq
      have HN := Lib.hid hn
      clear hn
      generalize hx : l.getD k 0 = x at hcell
      have X := Lib.hid hx
      clear hx
      cases hp : noclaim x with
      | true =>
        have P := Lib.hid hp
        clear hp
        go_wp2_with (go_at_call 80; refine (noclaim_any _ _).mono ?_; rintro e w' ⟨rfl, rfl⟩; rw [P.out])
        go_ret
        exact ⟨ret_i (fidx_hit noclaim l k 0 hlt HN.out (by rw [X.out]; exact P.out)).symm, rfl⟩
      | false =>
        have P := Lib.hid hp
        clear hp
        go_wp2_with (go_at_call 80; refine (noclaim_any _ _).mono ?_; rintro e w' ⟨rfl, rfl⟩; rw [P.out])
        go_round
        case rel => exact ⟨k + 1, by omega, by go_num, fun j hj => by
          rcases Nat.lt_succ_iff_lt_or_eq.1 hj with h | rfl
          · exact HN.out j h
          · rw [X.out]; exact P.out⟩
        case measure => simp [intOf]; omega
    · have e : k = l.length := by omega
      subst e
      go_wp2
      go_ret
      exact ⟨ret_i (fidx_pre noclaim l 0 hn).symm, rfl⟩

set_option maxHeartbeats 400000 in
theorem contClaim_any (v : Value) (l : List Int) (w : World) (hv : IntsAt w v l) :
    Calls Try.prog 79 #[v, .func (.func 80) #[] #[]] w fun e w' => e = .returned (.bool (l.any noclaim)) ∧ w = w' := by
  have E := Lib.hid (fidx_any noclaim l)
  go_enter Try.func79, Try.ntmps79
  go_wp2_with (go_at_call 107; refine (idxClaim_any _ _ _ hv).mono ?_; rintro e w' ⟨rfl, rfl⟩)
  go_ret
  exact ⟨by rw [← E.out]; rfl, rfl⟩


/-- The claims are valid. -/
def cvl (t : List Int) : Bool := betw 1 t.length 8 && !t.any noclaim

/-- What valid claims are. -/
structure Cvl (t : List Int) : Prop where
  lo : 1 ≤ t.length
  hi : t.length ≤ 8
  holds : ∀ n ∈ t, 0 ≤ n ∧ n ≤ 1000

theorem cvl_iff (t : List Int) : cvl t = true ↔ Cvl t := by
  unfold cvl
  rw [Bool.and_eq_true, betw_iff]
  constructor
  · rintro ⟨h, k⟩
    refine ⟨by omega, by omega, fun n hn => ?_⟩
    simp only [Bool.not_eq_true', List.any_eq_false] at k
    have := k n hn
    simpa [noclaim, betw] using this
  · rintro ⟨h1, h2, h3⟩
    refine ⟨by omega, ?_⟩
    simp only [Bool.not_eq_true', List.any_eq_false]
    intro n hn
    have := h3 n hn
    simp [noclaim, betw, this]

set_option maxHeartbeats 400000 in
theorem valid_any (v : Value) (t : List Int) (w : World) (hv : IntsAt w v t) :
    Calls Try.prog 42 #[v] w fun e w' => e = .returned (.bool (cvl t)) ∧ w = w' := by
  unfold cvl
  obtain ⟨a, cap, rfl, hr⟩ := id hv
  have hv' : IntsAt w (.slice a t.length cap) t := hv
  clear hv
  cases hb : betw 1 t.length 8 with
  | true =>
    have B := Lib.hid hb
    clear hb
    go_enter Try.func42, Try.ntmps42
    go_wp2_with (first | (go_at_call 52; refine (between_any _ _ _ _).mono ?_; rintro e w' ⟨rfl, rfl⟩; rw [B.out]) | (go_at_call 79; refine (contClaim_any _ _ _ hv').mono ?_; rintro e w' ⟨rfl, rfl⟩))
    go_ret
    exact ⟨rfl, rfl⟩
  | false =>
    have B := Lib.hid hb
    clear hb
    go_enter Try.func42, Try.ntmps42
    go_wp2_with (first | (go_at_call 52; refine (between_any _ _ _ _).mono ?_; rintro e w' ⟨rfl, rfl⟩; rw [B.out]))
    go_ret
    exact ⟨rfl, rfl⟩

theorem cvl_bad {t : List Int} {k : Nat} (hk : k < t.length) (h : noclaim (t.getD k 0) = true) : cvl t = false := by
  unfold cvl
  have : t.any noclaim = true := List.any_eq_true.2 ⟨_, by rw [List.getD_eq_getElem?_getD, List.getElem?_eq_getElem hk]; simp, h⟩
  rw [this]; simp

theorem cvl_good {t : List Int} (h : ∀ j, j < t.length → noclaim (t.getD j 0) = false) : cvl t = betw 1 t.length 8 := by
  unfold cvl
  have : t.any noclaim = false := List.any_eq_false.2 fun x hx => by
    obtain ⟨i, hi, rfl⟩ := List.getElem_of_mem hx
    have := h i hi
    rw [List.getD_eq_getElem?_getD, List.getElem?_eq_getElem hi] at this
    simpa using this
  rw [this]; simp

theorem cvl_long {t : List Int} (h : 8 < t.length) : cvl t = betw 1 t.length 8 := by
  unfold cvl
  have : betw 1 t.length 8 = false := by simp [betw]; omega
  rw [this]; rfl

set_option maxHeartbeats 400000 in
theorem rValid_any (v : Value) (t : List Int) (w : World) (hv : IntsAt w v t) :
    Calls Try.prog 25 #[v] w fun e w' => e = .returned (.bool (cvl t)) ∧ w = w' := by
  obtain ⟨a, cap, rfl, hl, hq⟩ := hv
  go_enter Try.func25, Try.ntmps25
  go_wp2
  go_loop [3] (fun i => ∃ k : Nat, k ≤ t.length ∧ k ≤ 9 ∧ i = .int .i64 k ∧ ∀ j, j < k → noclaim (t.getD j 0) = false) (fun i => t.length - (intOf i).toNat)
  case atStart => exact ⟨0, Nat.zero_le _, by omega, rfl, fun j hj => by omega⟩
  case round =>
    obtain ⟨k, hk, hk9, rfl, hn⟩ := hrel
    have HN := Lib.hid hn
    clear hn
    by_cases hlt : k < t.length ∧ k ≤ 8
    · obtain ⟨hlt, h4⟩ := hlt
      obtain ⟨b, off, rfl, hc⟩ := hq (by omega)
      have hcell := hc k hlt
      clear hc hq
      generalize hx : t.getD k 0 = x at hcell
      have X := Lib.hid hx
      clear hx
      cases hp : betw 0 x 1000 with
      | true =>
        have P := Lib.hid hp
        clear hp
        go_wp2_with (go_at_call 55; refine (within_any _ _ _ _).mono ?_; rintro e w' ⟨rfl, rfl⟩; rw [P.out])
        go_round
        case rel => exact ⟨k + 1, by omega, by omega, by go_num, fun j hj => by
          rcases Nat.lt_succ_iff_lt_or_eq.1 hj with h | rfl
          · exact HN.out j h
          · rw [X.out]; unfold noclaim; rw [P.out]; rfl⟩
        case measure => simp [intOf]; omega
      | false =>
        have P := Lib.hid hp
        clear hp
        have E := Lib.hid (cvl_bad hlt (show noclaim (t.getD k 0) = true by rw [X.out]; unfold noclaim; rw [P.out]; rfl))
        go_wp2_with (go_at_call 55; refine (within_any _ _ _ _).mono ?_; rintro e w' ⟨rfl, rfl⟩; rw [P.out])
        go_ret
        exact ⟨ret_b E.out.symm, rfl⟩
    · have E : Hid (cvl t = betw 1 t.length 8) := Lib.hid (by
        by_cases h4 : 8 < t.length
        · exact cvl_long h4
        · exact cvl_good (fun j hj => HN.out j (by omega)))
      by_cases hlt2 : k < t.length
      · have h5 : ¬ k ≤ 8 := fun h => hlt ⟨hlt2, h⟩
        clear hlt
        go_wp2_with (go_at_call 55; refine (within_any _ _ _ _).mono ?_; rintro e w' ⟨rfl, rfl⟩)
        go_ret
        exact ⟨ret_b E.out.symm, rfl⟩
      · have e : k = t.length := by omega
        subst e
        clear hlt
        go_wp2_with (go_at_call 55; refine (within_any _ _ _ _).mono ?_; rintro e w' ⟨rfl, rfl⟩)
        go_ret
        exact ⟨ret_b E.out.symm, rfl⟩


theorem ints_cell {w : World} {v : Value} {l : List Int} (h : IntsAt w v l) (h0 : 0 < l.length) :
    ∃ b off cap, v = .slice (some ⟨b, off, none⟩) l.length cap ∧ ∀ j, j < l.length → w.cell? ⟨b, off + j, none⟩ = some (.int .i64 (l.getD j 0)) := by
  obtain ⟨a, cap, rfl, _, hq⟩ := h
  obtain ⟨b, off, rfl, hc⟩ := hq h0
  exact ⟨b, off, cap, rfl, hc⟩

/-- The sum of a list. -/
def tot (c : List Int) : Int := c.foldl (· + ·) 0
theorem tot_snoc {c : List Int} {k : Nat} (hk : k < c.length) : tot (c.take (k + 1)) = tot (c.take k) + c.getD k 0 := by
  rw [List.take_succ_eq_append_getElem hk, tot, List.foldl_append, List.getD_eq_getElem?_getD, List.getElem?_eq_getElem hk]
  rfl
theorem mem_getD {t : List Int} {k : Nat} (hk : k < t.length) : t.getD k 0 ∈ t := by
  rw [List.getD_eq_getElem?_getD, List.getElem?_eq_getElem hk]; simp
theorem tot_bd {c : List Int} (h : Cvl c) : ∀ k, k ≤ c.length → 0 ≤ tot (c.take k) ∧ tot (c.take k) ≤ 1000 * k
  | 0, _ => by simp [tot]
  | k + 1, hk => by
    have ih := tot_bd h k (by omega)
    have := h.holds _ (mem_getD (show k < c.length by omega))
    rw [tot_snoc (by omega)]
    omega


set_option maxHeartbeats 400000 in
theorem sum_any (v : Value) (c : List Int) (w : World) (hv : IntsAt w v c) (ht : Cvl c) :
    Calls Try.prog 67 #[v] w fun e w' => e = .returned (.int .i64 (tot c)) ∧ w = w' := by
  obtain ⟨b, off, cap, rfl, hc⟩ := ints_cell hv (by have := ht.lo; omega)
  have hhi := ht.hi
  clear hv
  go_enter Try.func67, Try.ntmps67
  go_wp2
  go_loop [3, 8] (fun s i => ∃ k : Nat, k ≤ c.length ∧ i = .int .i64 k ∧ s = .int .i64 (tot (c.take k))) (fun _ i => c.length - (intOf i).toNat)
  case atStart => exact ⟨0, Nat.zero_le _, rfl, rfl⟩
  case round =>
    obtain ⟨k, hk, rfl, rfl⟩ := hrel
    by_cases hlt : k < c.length
    · have hcell := hc k hlt
      have E := Lib.hid (tot_snoc hlt)
      have b1 := tot_bd ht k hk
      have b2 := ht.holds _ (mem_getD hlt)
      generalize c.getD k 0 = x at *
      generalize tot (c.take k) = s at *
      clear hc
      go_wp2
      go_round
      case rel => exact ⟨k + 1, by omega, by go_num, by rw [E.out]⟩
      case measure => simp [intOf]; omega
    · have e : k = c.length := by omega
      subst e
      go_wp2
      go_ret
      exact ⟨ret_i (by first | rfl | rw [List.take_length]), rfl⟩

set_option maxHeartbeats 400000 in
theorem total_any (v : Value) (c : List Int) (w : World) (hv : IntsAt w v c) (ht : Cvl c) :
    Calls Try.prog 26 #[v] w fun e w' => e = .returned (.int .i64 (tot c)) ∧ w = w' := by
  obtain ⟨b, off, cap, rfl, hc⟩ := ints_cell hv (by have := ht.lo; omega)
  have hhi := ht.hi
  clear hv
  go_enter Try.func26, Try.ntmps26
  go_wp2
  go_loop [3, 4] (fun s i => ∃ k : Nat, k ≤ c.length ∧ i = .int .i64 k ∧ s = .int .i64 (tot (c.take k))) (fun _ i => c.length - (intOf i).toNat)
  case atStart => exact ⟨0, Nat.zero_le _, rfl, rfl⟩
  case round =>
    obtain ⟨k, hk, rfl, rfl⟩ := hrel
    by_cases hlt : k < c.length
    · have hcell := hc k hlt
      have E := Lib.hid (tot_snoc hlt)
      have b1 := tot_bd ht k hk
      have b2 := ht.holds _ (mem_getD hlt)
      generalize c.getD k 0 = x at *
      generalize tot (c.take k) = s at *
      clear hc
      go_wp2
      go_round
      case rel => exact ⟨k + 1, by omega, by go_num, by rw [E.out]⟩
      case measure => simp [intOf]; omega
    · have e : k = c.length := by omega
      subst e
      go_wp2
      go_ret
      exact ⟨ret_i (by first | rfl | rw [List.take_length]), rfl⟩

end Go.Proofs.Ytaakefjblldccaa
