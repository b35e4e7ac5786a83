/- Contracts: which tides are valid (the program's Valid, over slices.ContainsFunc). -/
import Derived.Test.YtbgflacfemeblaaDoorA
namespace Go.Proofs.YtbgflacfemeblaaDoor
open Go.RowKit

/-- The first index at which p holds, or -1. -/
def fidx {α : Type} (p : α → Bool) : List α → Int
  | [] => -1
  | x :: l => if p x then 0 else (if fidx p l < 0 then -1 else fidx p l + 1)

theorem fidx_any {α : Type} (p : α → Bool) : ∀ l : List α, decide (0 ≤ fidx p l) = l.any p
  | [] => by simp [fidx]
  | x :: l => by
    have ih := fidx_any p l
    unfold fidx
    rw [List.any_cons]
    cases hp : p x with
    | true => simp
    | false =>
      simp only [Bool.false_eq_true, if_false, Bool.false_or]
      rw [← ih]
      split <;> rename_i h <;> simp <;> omega

theorem fidx_none {α : Type} (p : α → Bool) : ∀ l : List α, (∀ x ∈ l, p x = false) → fidx p l = -1
  | [], _ => rfl
  | x :: l, h => by
    unfold fidx
    rw [h x (by simp), fidx_none p l (fun y hy => h y (by simp [hy]))]
    simp

theorem fidx_hit {α : Type} (p : α → Bool) : ∀ (l : List α) (k : Nat) (d : α), k < l.length → (∀ i, i < k → p (l.getD i d) = false) → p (l.getD k d) = true → fidx p l = k
  | [], k, d, h, _, _ => by simp at h
  | x :: l, 0, d, _, _, h => by
    unfold fidx
    rw [List.getD_cons_zero] at h
    simp [h]
  | x :: l, k + 1, d, hk, hn, h => by
    have h0 := hn 0 (by omega)
    rw [List.getD_cons_zero] at h0
    have ih := fidx_hit p l k d (by simpa using hk) (fun i hi => by simpa using hn (i + 1) (by omega)) (by simpa using h)
    unfold fidx
    rw [h0, ih]
    simp only [Bool.false_eq_true, if_false]
    rw [if_neg (by omega)]
    omega

theorem fidx_pre {α : Type} (p : α → Bool) (l : List α) (d : α) (h : ∀ i, i < l.length → p (l.getD i d) = false) : fidx p l = -1 :=
  fidx_none p l fun x hx => by
    obtain ⟨i, hi, rfl⟩ := List.getElem_of_mem hx
    have := h i hi
    rwa [List.getD_eq_getElem?_getD, List.getElem?_eq_getElem hi] at this

/-- A number that is no speed. -/
def nospd (n : Int) : Bool := !(betw (-100) n 100)

set_option maxHeartbeats 400000 in
theorem nospd_any (n : Int) (w : World) :
    Calls Tryd.prog 35 #[.int .i64 n] w fun e w' => e = .returned (.bool (nospd n)) ∧ w = w' := by
  unfold nospd
  go_enter Tryd.func35, Tryd.ntmps35
  go_wp2_with (go_at_call 21; refine (between_any _ _ _ _).mono ?_; rintro e w' ⟨rfl, rfl⟩)
  go_ret
  exact ⟨rfl, rfl⟩

set_option maxHeartbeats 400000 in
theorem idxWave_any (v : Value) (l : List Int) (w : World) (hv : IntsAt w v l) :
    Calls Tryd.prog 48 #[v, .func (.func 35) #[] #[]] w fun e w' => e = .returned (.int .i64 (fidx nospd l)) ∧ w = w' := by
  obtain ⟨a, cap, rfl, hl, hq⟩ := hv
  go_enter Tryd.func48, Tryd.ntmps48
  go_wp2
  go_loop [8] (fun i => ∃ k : Nat, k ≤ l.length ∧ i = .int .i64 k ∧ ∀ j, j < k → nospd (l.getD j 0) = false) (fun i => l.length - (intOf i).toNat)
  case atStart => exact ⟨0, Nat.zero_le _, rfl, fun j hj => by omega⟩
  case round =>
    obtain ⟨k, hk, rfl, hn⟩ := hrel
    by_cases hlt : k < l.length
    · obtain ⟨b, off, rfl, hc⟩ := hq (by omega)
      have hcell := hc k hlt
      clear hc hq
      have HN := Lib.hid hn
      clear hn
      generalize hx : l.getD k 0 = x at hcell
      have X := Lib.hid hx
      clear hx
      cases hp : nospd x with
      | true =>
        have P := Lib.hid hp
        clear hp
        go_wp2_with (go_at_call 35; refine (nospd_any _ _).mono ?_; rintro e w' ⟨rfl, rfl⟩; rw [P.out])
        go_ret
        exact ⟨ret_i (fidx_hit nospd l k 0 hlt HN.out (by rw [X.out]; exact P.out)).symm, rfl⟩
      | false =>
        have P := Lib.hid hp
        clear hp
        go_wp2_with (go_at_call 35; refine (nospd_any _ _).mono ?_; rintro e w' ⟨rfl, rfl⟩; rw [P.out])
        go_round
        case rel => exact ⟨k + 1, by omega, by go_num, fun j hj => by
          rcases Nat.lt_succ_iff_lt_or_eq.1 hj with h | rfl
          · exact HN.out j h
          · rw [X.out]; exact P.out⟩
        case measure => simp [intOf]; omega
    · have e : k = l.length := by omega
      subst e
      go_wp2
      go_ret
      exact ⟨ret_i (fidx_pre nospd l 0 hn).symm, rfl⟩

set_option maxHeartbeats 400000 in
theorem contWave_any (v : Value) (l : List Int) (w : World) (hv : IntsAt w v l) :
    Calls Tryd.prog 34 #[v, .func (.func 35) #[] #[]] w fun e w' => e = .returned (.bool (l.any nospd)) ∧ w = w' := by
  have E := Lib.hid (fidx_any nospd l)
  go_enter Tryd.func34, Tryd.ntmps34
  go_wp2_with (go_at_call 48; refine (idxWave_any _ _ _ hv).mono ?_; rintro e w' ⟨rfl, rfl⟩)
  go_ret
  exact ⟨by rw [← E.out]; rfl, rfl⟩

theorem betw_iff (a b c : Int) : betw a b c = true ↔ a ≤ b ∧ b ≤ c := by simp [betw]

theorem any_nospd (l : List Int) : (!l.any nospd) = l.all fun n => decide (-100 ≤ n) && decide (n ≤ 100) := by
  rw [List.not_any_eq_all_not]
  congr 1
  funext n
  simp [nospd, betw]

/-- The wave is valid, as the program says it. -/
theorem wvld_eq (l : List Int) : wvld l = (betw 1 l.length 12 && !l.any nospd) := by
  rw [any_nospd]
  unfold wvld betw
  congr 2
  · apply decide_eq_decide.2; omega
  · apply decide_eq_decide.2; omega

set_option maxHeartbeats 400000 in
theorem wvalid_any (v : Value) (l : List Int) (w : World) (hv : IntsAt w v l) :
    Calls Tryd.prog 24 #[v] w fun e w' => e = .returned (.bool (wvld l)) ∧ w = w' := by
  have E := Lib.hid (wvld_eq l)
  obtain ⟨a, cap, rfl, hr⟩ := id hv
  have hv' : IntsAt w (.slice a l.length cap) l := hv
  clear hv
  cases hb : betw 1 l.length 12 with
  | true =>
    have B := Lib.hid hb
    clear hb
    go_enter Tryd.func24, Tryd.ntmps24
    go_wp2_with (first | (go_at_call 21; refine (between_any _ _ _ _).mono ?_; rintro e w' ⟨rfl, rfl⟩; rw [B.out]) | (go_at_call 34; refine (contWave_any _ _ _ hv').mono ?_; rintro e w' ⟨rfl, rfl⟩))
    go_ret
    exact ⟨by rw [E.out, B.out]; rfl, rfl⟩
  | false =>
    have B := Lib.hid hb
    clear hb
    go_enter Tryd.func24, Tryd.ntmps24
    go_wp2_with (first | (go_at_call 21; refine (between_any _ _ _ _).mono ?_; rintro e w' ⟨rfl, rfl⟩; rw [B.out]))
    go_ret
    exact ⟨by rw [E.out, B.out]; rfl, rfl⟩

/-- A list of numbers that is no wave. -/
def nowave (l : List Int) : Bool := !wvld l

set_option maxHeartbeats 400000 in
theorem nowave_any (v : Value) (l : List Int) (w : World) (hv : IntsAt w v l) :
    Calls Tryd.prog 23 #[v] w fun e w' => e = .returned (.bool (nowave l)) ∧ w = w' := by
  unfold nowave
  go_enter Tryd.func23, Tryd.ntmps23
  go_wp2_with (go_at_call 24; refine (wvalid_any _ _ _ hv).mono ?_; rintro e w' ⟨rfl, rfl⟩)
  go_ret
  exact ⟨rfl, rfl⟩

set_option maxHeartbeats 400000 in
theorem idxRows_any (v : Value) (t : List (List Int)) (w : World) (hv : RowsAt w v t) :
    Calls Tryd.prog 33 #[v, .func (.func 23) #[] #[]] w fun e w' => e = .returned (.int .i64 (fidx nowave t)) ∧ w = w' := by
  obtain ⟨a, cap, rfl, hl, hq⟩ := hv
  go_enter Tryd.func33, Tryd.ntmps33
  go_wp2
  go_loop [8] (fun i => ∃ k : Nat, k ≤ t.length ∧ i = .int .i64 k ∧ ∀ j, j < k → nowave (t.getD j []) = false) (fun i => t.length - (intOf i).toNat)
  case atStart => exact ⟨0, Nat.zero_le _, rfl, fun j hj => by omega⟩
  case round =>
    obtain ⟨k, hk, rfl, hn⟩ := hrel
    by_cases hlt : k < t.length
    · obtain ⟨b, off, rfl, hc⟩ := hq (by omega)
      obtain ⟨x, hcell, hi⟩ := hc k hlt
      clear hc hq
      have HN := Lib.hid hn
      clear hn
      generalize hx : t.getD k [] = lk at hi
      have X := Lib.hid hx
      clear hx
      cases hp : nowave lk with
      | true =>
        have P := Lib.hid hp
        clear hp
        go_wp2_with (go_at_call 23; refine (nowave_any _ _ _ hi).mono ?_; rintro e w' ⟨rfl, rfl⟩; rw [P.out])
        go_ret
        exact ⟨ret_i (fidx_hit nowave t k [] hlt HN.out (by rw [X.out]; exact P.out)).symm, rfl⟩
      | false =>
        have P := Lib.hid hp
        clear hp
        go_wp2_with (go_at_call 23; refine (nowave_any _ _ _ hi).mono ?_; rintro e w' ⟨rfl, rfl⟩; rw [P.out])
        go_round
        case rel => exact ⟨k + 1, by omega, by go_num, fun j hj => by
          rcases Nat.lt_succ_iff_lt_or_eq.1 hj with h | rfl
          · exact HN.out j h
          · rw [X.out]; exact P.out⟩
        case measure => simp [intOf]; omega
    · have e : k = t.length := by omega
      subst e
      go_wp2
      go_ret
      exact ⟨ret_i (fidx_pre nowave t [] hn).symm, rfl⟩

set_option maxHeartbeats 400000 in
theorem contRows_any (v : Value) (t : List (List Int)) (w : World) (hv : RowsAt w v t) :
    Calls Tryd.prog 22 #[v, .func (.func 23) #[] #[]] w fun e w' => e = .returned (.bool (t.any nowave)) ∧ w = w' := by
  have E := Lib.hid (fidx_any nowave t)
  go_enter Tryd.func22, Tryd.ntmps22
  go_wp2_with (go_at_call 33; refine (idxRows_any _ _ _ hv).mono ?_; rintro e w' ⟨rfl, rfl⟩)
  go_ret
  exact ⟨by rw [← E.out]; rfl, rfl⟩

theorem vld_eq (t : List (List Int)) : vld t = (betw 1 t.length 4 && !t.any nowave) := by
  unfold vld betw
  congr 2
  · apply decide_eq_decide.2; omega
  · apply decide_eq_decide.2; omega
  · rw [List.not_any_eq_all_not]
    congr 1
    funext l
    simp [nowave]

set_option maxHeartbeats 400000 in
theorem valid_any (v : Value) (t : List (List Int)) (w : World) (hv : RowsAt w v t) :
    Calls Tryd.prog 12 #[v] w fun e w' => e = .returned (.bool (vld t)) ∧ w = w' := by
  have E := Lib.hid (vld_eq t)
  obtain ⟨a, cap, rfl, hr⟩ := id hv
  have hv' : RowsAt w (.slice a t.length cap) t := hv
  clear hv
  cases hb : betw 1 t.length 4 with
  | true =>
    have B := Lib.hid hb
    clear hb
    go_enter Tryd.func12, Tryd.ntmps12
    go_wp2_with (first | (go_at_call 21; refine (between_any _ _ _ _).mono ?_; rintro e w' ⟨rfl, rfl⟩; rw [B.out]) | (go_at_call 22; refine (contRows_any _ _ _ hv').mono ?_; rintro e w' ⟨rfl, rfl⟩))
    go_ret
    exact ⟨by rw [E.out, B.out]; rfl, rfl⟩
  | false =>
    have B := Lib.hid hb
    clear hb
    go_enter Tryd.func12, Tryd.ntmps12
    go_wp2_with (first | (go_at_call 21; refine (between_any _ _ _ _).mono ?_; rintro e w' ⟨rfl, rfl⟩; rw [B.out]))
    go_ret
    exact ⟨by rw [E.out, B.out]; rfl, rfl⟩

end Go.Proofs.YtbgflacfemeblaaDoor
