/- Texts of this claim, laid together: TdA, TdB, TdC. -/
import Derived.Test.YtdfkaijeppdhaaaGreatDoorZHq16
import Derived.Test.YtdfkaijeppdhaaaGreatDoorProg
import Derived.KernelRfl
import Derived.BigQuiet
import Derived.Lib.Hide
import Derived.Deep.QuietTactic
import Derived.Shelf.Abstract

/- Contracts of the leaves: between, at, speed. -/
namespace Go.Proofs.YtdfkaijeppdhaaaGreatDoor.Td
open Go.RowKit
/-- The test a ≤ b ≤ c. -/
def betw (a b c : Int) : Bool := decide (a ≤ b) && decide (b ≤ c)

set_option maxHeartbeats 400000 in
theorem between_any (a b c : Int) (w : World) :
    Calls Tryz.prog 201 #[.int .i64 a, .int .i64 b, .int .i64 c] w fun e w' => e = .returned (.bool (betw a b c)) ∧ w = w' := by
  unfold betw
  by_cases h1 : a ≤ b
  · by_cases h2 : b ≤ c
    · go_enter Tryz.func201, Tryz.ntmps201
      go_wp2
      go_ret
      exact ⟨by simp [h1, h2], rfl⟩
    · go_enter Tryz.func201, Tryz.ntmps201
      go_wp2
      go_ret
      exact ⟨by simp [h2], rfl⟩
  · go_enter Tryz.func201, Tryz.ntmps201
    go_wp2
    go_ret
    exact ⟨by rw [decide_eq_false (show ¬ a ≤ b by omega)]; rfl, rfl⟩

theorem tmod_bd (h : Int) (n : Nat) (h0 : 0 < n) : -(n : Int) < h.tmod n ∧ h.tmod n < n := by
  have h1 := Int.tmod_lt_of_pos h (show (0 : Int) < n by omega)
  have h2 := Int.tmod_lt_of_pos (-h) (show (0 : Int) < n by omega)
  rw [Int.neg_tmod] at h2
  omega

theorem emod_neg (h : Int) (n : Nat) (h0 : 0 < n) (hn : h.tmod n < 0) : h % n = h.tmod n + n := by
  have h1 := tmod_bd h n h0
  have h2 := Int.mul_tdiv_add_tmod h n
  have e : h = (h.tmod n + n) + n * (h.tdiv n + -1) := by
    rw [Int.mul_add]
    generalize (n : Int) * h.tdiv n = x at *
    omega
  conv => lhs; rw [e]
  rw [Int.add_mul_emod_self_left]
  exact Int.emod_eq_of_lt (by omega) (by omega)

theorem emod_pos' (h : Int) (n : Nat) (h0 : 0 < n) (hn : 0 ≤ h.tmod n) : h % n = h.tmod n := by
  have h1 := tmod_bd h n h0
  have h2 := Int.mul_tdiv_add_tmod h n
  have e : h = h.tmod n + n * h.tdiv n := by omega
  conv => lhs; rw [e]
  rw [Int.add_mul_emod_self_left]
  exact Int.emod_eq_of_lt (by omega) (by omega)

theorem ret_i {a b : Int} (h : a = b) : Ending.returned (.int .i64 a) = .returned (.int .i64 b) := by rw [h]

set_option maxHeartbeats 400000 in
theorem at_any (v : Value) (l : List Int) (h : Int) (w : World) (hv : IntsAt w v l) (h0 : 0 < l.length) :
    Calls Tryz.prog 255 #[v, .int .i64 h] w fun e w' => e = .returned (.int .i64 (wat l h)) ∧ w = w' := by
  obtain ⟨a, cap, rfl, hl, hq⟩ := hv
  obtain ⟨b, off, rfl, hc⟩ := hq h0
  clear hq
  have ⟨hb1, hb2⟩ := tmod_bd h l.length h0
  by_cases hn : h.tmod l.length < 0
  · have E := Lib.hid (emod_neg h l.length h0 hn)
    have hcell := hc (h.tmod l.length + l.length).toNat (by omega)
    clear hc
    generalize hx : l.getD _ 0 = x at hcell
    have X := Lib.hid hx
    clear hx
    go_enter Tryz.func255, Tryz.ntmps255
    go_wp2
    go_ret
    exact ⟨ret_i (by unfold wat; rw [E.out]; exact X.out.symm), rfl⟩
  · have E := Lib.hid (emod_pos' h l.length h0 (by omega))
    have hcell := hc (h.tmod l.length).toNat (by omega)
    clear hc
    generalize hx : l.getD _ 0 = x at hcell
    have X := Lib.hid hx
    clear hx
    go_enter Tryz.func255, Tryz.ntmps255
    go_wp2
    go_ret
    exact ⟨ret_i (by unfold wat; rw [E.out]; exact X.out.symm), rfl⟩

theorem spd_snoc (t : List (List Int)) (k : Nat) (h : Int) (hk : k < t.length) : spd (t.take (k + 1)) h = spd (t.take k) h + wat (t.getD k []) h := by
  rw [List.take_succ_eq_append_getElem hk, spd_append, spd_cons, spd_nil, List.getD_eq_getElem?_getD, List.getElem?_eq_getElem hk]
  simp

theorem getD_mem {t : List (List Int)} {k : Nat} (hk : k < t.length) : t.getD k [] ∈ t := by
  rw [List.getD_eq_getElem?_getD, List.getElem?_eq_getElem hk]; simp

set_option maxHeartbeats 400000 in
theorem speed_any (v : Value) (t : List (List Int)) (h : Int) (w : World) (hv : RowsAt w v t) (ht : Vld t) :
    Calls Tryz.prog 250 #[v, .int .i64 h] w fun e w' => e = .returned (.int .i64 (spd t h)) ∧ w = w' := by
  obtain ⟨a, cap, rfl, hl, hq⟩ := hv
  have hlo := ht.lo
  have hhi := ht.hi
  obtain ⟨b, off, rfl, hc⟩ := hq (by omega)
  clear hq
  go_enter Tryz.func250, Tryz.ntmps250
  go_wp2
  go_loop [5, 10] (fun s i => ∃ k : Nat, k ≤ t.length ∧ i = .int .i64 k ∧ s = .int .i64 (spd (t.take k) h)) (fun _ i => t.length - (intOf i).toNat)
  case atStart => exact ⟨0, Nat.zero_le _, rfl, rfl⟩
  case round =>
    obtain ⟨k, hk, rfl, rfl⟩ := hrel
    by_cases hlt : k < t.length
    · obtain ⟨x, hx, hi⟩ := hc k hlt
      have hw := ht.wave _ (getD_mem hlt)
      have E := Lib.hid (spd_snoc t k h hlt)
      have b1 := spd_bound (t.take k) (fun l hl => (ht.wave l (List.mem_of_mem_take hl)).2.2) h
      have b2 := wat_bound hw.2.2 h
      have hlen : (t.take k).length ≤ k := List.length_take_le _ _
      have hw1 := hw.1
      have ht4 : t.length ≤ 4 := hhi
      generalize t.getD k [] = lk at *
      generalize spd (t.take k) h = s at *
      clear hc hw
      go_wp2_with (go_at_call 255; refine (at_any _ _ _ _ hi hw1).mono ?_; rintro e w' ⟨rfl, rfl⟩)
      go_round
      case rel => exact ⟨k + 1, by omega, by go_num, by rw [E.out]⟩
      case measure => simp [intOf]; omega
    · have e : k = t.length := by omega
      subst e
      go_wp2
      go_ret
      exact ⟨ret_i (by simp), rfl⟩

end Go.Proofs.YtdfkaijeppdhaaaGreatDoor.Td

/- Contracts: which tides are valid (the program's Valid, over slices.ContainsFunc). -/
namespace Go.Proofs.YtdfkaijeppdhaaaGreatDoor.Td
open Go.RowKit
/-- The first index at which p holds, or -1. -/
def fidx {α : Type} (p : α → Bool) : List α → Int
  | [] => -1
  | x :: l => if p x then 0 else (if fidx p l < 0 then -1 else fidx p l + 1)

theorem fidx_any {α : Type} (p : α → Bool) : ∀ l : List α, decide (0 ≤ fidx p l) = l.any p
  | [] => by simp [fidx]
  | x :: l => by
    have ih := fidx_any p l
    unfold fidx
    rw [List.any_cons]
    cases hp : p x with
    | true => simp
    | false =>
      simp only [Bool.false_eq_true, if_false, Bool.false_or]
      rw [← ih]
      split <;> rename_i h <;> simp <;> omega

theorem fidx_none {α : Type} (p : α → Bool) : ∀ l : List α, (∀ x ∈ l, p x = false) → fidx p l = -1
  | [], _ => rfl
  | x :: l, h => by
    unfold fidx
    rw [h x (by simp), fidx_none p l (fun y hy => h y (by simp [hy]))]
    simp

theorem fidx_hit {α : Type} (p : α → Bool) : ∀ (l : List α) (k : Nat) (d : α), k < l.length → (∀ i, i < k → p (l.getD i d) = false) → p (l.getD k d) = true → fidx p l = k
  | [], k, d, h, _, _ => by simp at h
  | x :: l, 0, d, _, _, h => by
    unfold fidx
    rw [List.getD_cons_zero] at h
    simp [h]
  | x :: l, k + 1, d, hk, hn, h => by
    have h0 := hn 0 (by omega)
    rw [List.getD_cons_zero] at h0
    have ih := fidx_hit p l k d (by simpa using hk) (fun i hi => by simpa using hn (i + 1) (by omega)) (by simpa using h)
    unfold fidx
    rw [h0, ih]
    simp only [Bool.false_eq_true, if_false]
    rw [if_neg (by omega)]
    omega

theorem fidx_pre {α : Type} (p : α → Bool) (l : List α) (d : α) (h : ∀ i, i < l.length → p (l.getD i d) = false) : fidx p l = -1 :=
  fidx_none p l fun x hx => by
    obtain ⟨i, hi, rfl⟩ := List.getElem_of_mem hx
    have := h i hi
    rwa [List.getD_eq_getElem?_getD, List.getElem?_eq_getElem hi] at this

/-- A number that is no speed. -/
def nospd (n : Int) : Bool := !(betw (-100) n 100)

set_option maxHeartbeats 400000 in
theorem nospd_any (n : Int) (w : World) :
    Calls Tryz.prog 248 #[.int .i64 n] w fun e w' => e = .returned (.bool (nospd n)) ∧ w = w' := by
  unfold nospd
  go_enter Tryz.func248, Tryz.ntmps248
  go_wp2_with (go_at_call 201; refine (between_any _ _ _ _).mono ?_; rintro e w' ⟨rfl, rfl⟩)
  go_ret
  exact ⟨rfl, rfl⟩

set_option maxHeartbeats 400000 in
theorem idxWave_any (v : Value) (l : List Int) (w : World) (hv : IntsAt w v l) :
    Calls Tryz.prog 254 #[v, .func (.func 248) #[] #[]] w fun e w' => e = .returned (.int .i64 (fidx nospd l)) ∧ w = w' := by
  obtain ⟨a, cap, rfl, hl, hq⟩ := hv
  go_enter Tryz.func254, Tryz.ntmps254
  go_wp2
  go_loop [8] (fun i => ∃ k : Nat, k ≤ l.length ∧ i = .int .i64 k ∧ ∀ j, j < k → nospd (l.getD j 0) = false) (fun i => l.length - (intOf i).toNat)
  case atStart => exact ⟨0, Nat.zero_le _, rfl, fun j hj => by omega⟩
  case round =>
    obtain ⟨k, hk, rfl, hn⟩ := hrel
    by_cases hlt : k < l.length
    · obtain ⟨b, off, rfl, hc⟩ := hq (by omega)
      have hcell := hc k hlt
      clear hc hq
      have HN := Lib.hid hn
      clear hn
      generalize hx : l.getD k 0 = x at hcell
      have X := Lib.hid hx
      clear hx
      cases hp : nospd x with
      | true =>
        have P := Lib.hid hp
        clear hp
        go_wp2_with (go_at_call 248; refine (nospd_any _ _).mono ?_; rintro e w' ⟨rfl, rfl⟩; rw [P.out])
        go_ret
        exact ⟨ret_i (fidx_hit nospd l k 0 hlt HN.out (by rw [X.out]; exact P.out)).symm, rfl⟩
      | false =>
        have P := Lib.hid hp
        clear hp
        go_wp2_with (go_at_call 248; refine (nospd_any _ _).mono ?_; rintro e w' ⟨rfl, rfl⟩; rw [P.out])
        go_round
        case rel => exact ⟨k + 1, by omega, by go_num, fun j hj => by
          rcases Nat.lt_succ_iff_lt_or_eq.1 hj with h | rfl
          · exact HN.out j h
          · rw [X.out]; exact P.out⟩
        case measure => simp [intOf]; omega
    · have e : k = l.length := by omega
      subst e
      go_wp2
      go_ret
      exact ⟨ret_i (fidx_pre nospd l 0 hn).symm, rfl⟩

set_option maxHeartbeats 400000 in
theorem contWave_any (v : Value) (l : List Int) (w : World) (hv : IntsAt w v l) :
    Calls Tryz.prog 247 #[v, .func (.func 248) #[] #[]] w fun e w' => e = .returned (.bool (l.any nospd)) ∧ w = w' := by
  have E := Lib.hid (fidx_any nospd l)
  go_enter Tryz.func247, Tryz.ntmps247
  go_wp2_with (go_at_call 254; refine (idxWave_any _ _ _ hv).mono ?_; rintro e w' ⟨rfl, rfl⟩)
  go_ret
  exact ⟨by rw [← E.out]; rfl, rfl⟩

theorem betw_iff (a b c : Int) : betw a b c = true ↔ a ≤ b ∧ b ≤ c := by simp [betw]

theorem any_nospd (l : List Int) : (!l.any nospd) = l.all fun n => decide (-100 ≤ n) && decide (n ≤ 100) := by
  rw [List.not_any_eq_all_not]
  congr 1
  funext n
  simp [nospd, betw]

/-- The wave is valid, as the program says it. -/
theorem wvld_eq (l : List Int) : wvld l = (betw 1 l.length 12 && !l.any nospd) := by
  rw [any_nospd]
  unfold wvld betw
  congr 2
  · apply decide_eq_decide.2; omega
  · apply decide_eq_decide.2; omega

set_option maxHeartbeats 400000 in
theorem wvalid_any (v : Value) (l : List Int) (w : World) (hv : IntsAt w v l) :
    Calls Tryz.prog 230 #[v] w fun e w' => e = .returned (.bool (wvld l)) ∧ w = w' := by
  have E := Lib.hid (wvld_eq l)
  obtain ⟨a, cap, rfl, hr⟩ := id hv
  have hv' : IntsAt w (.slice a l.length cap) l := hv
  clear hv
  cases hb : betw 1 l.length 12 with
  | true =>
    have B := Lib.hid hb
    clear hb
    go_enter Tryz.func230, Tryz.ntmps230
    go_wp2_with (first | (go_at_call 201; refine (between_any _ _ _ _).mono ?_; rintro e w' ⟨rfl, rfl⟩; rw [B.out]) | (go_at_call 247; refine (contWave_any _ _ _ hv').mono ?_; rintro e w' ⟨rfl, rfl⟩))
    go_ret
    exact ⟨by rw [E.out, B.out]; rfl, rfl⟩
  | false =>
    have B := Lib.hid hb
    clear hb
    go_enter Tryz.func230, Tryz.ntmps230
    go_wp2_with (first | (go_at_call 201; refine (between_any _ _ _ _).mono ?_; rintro e w' ⟨rfl, rfl⟩; rw [B.out]))
    go_ret
    exact ⟨by rw [E.out, B.out]; rfl, rfl⟩

/-- A list of numbers that is no wave. -/
def nowave (l : List Int) : Bool := !wvld l

set_option maxHeartbeats 400000 in
theorem nowave_any (v : Value) (l : List Int) (w : World) (hv : IntsAt w v l) :
    Calls Tryz.prog 229 #[v] w fun e w' => e = .returned (.bool (nowave l)) ∧ w = w' := by
  unfold nowave
  go_enter Tryz.func229, Tryz.ntmps229
  go_wp2_with (go_at_call 230; refine (wvalid_any _ _ _ hv).mono ?_; rintro e w' ⟨rfl, rfl⟩)
  go_ret
  exact ⟨rfl, rfl⟩

set_option maxHeartbeats 400000 in
theorem idxRows_any (v : Value) (t : List (List Int)) (w : World) (hv : RowsAt w v t) :
    Calls Tryz.prog 246 #[v, .func (.func 229) #[] #[]] w fun e w' => e = .returned (.int .i64 (fidx nowave t)) ∧ w = w' := by
  obtain ⟨a, cap, rfl, hl, hq⟩ := hv
  go_enter Tryz.func246, Tryz.ntmps246
  go_wp2
  go_loop [8] (fun i => ∃ k : Nat, k ≤ t.length ∧ i = .int .i64 k ∧ ∀ j, j < k → nowave (t.getD j []) = false) (fun i => t.length - (intOf i).toNat)
  case atStart => exact ⟨0, Nat.zero_le _, rfl, fun j hj => by omega⟩
  case round =>
    obtain ⟨k, hk, rfl, hn⟩ := hrel
    by_cases hlt : k < t.length
    · obtain ⟨b, off, rfl, hc⟩ := hq (by omega)
      obtain ⟨x, hcell, hi⟩ := hc k hlt
      clear hc hq
      have HN := Lib.hid hn
      clear hn
      generalize hx : t.getD k [] = lk at hi
      have X := Lib.hid hx
      clear hx
      cases hp : nowave lk with
      | true =>
        have P := Lib.hid hp
        clear hp
        go_wp2_with (go_at_call 229; refine (nowave_any _ _ _ hi).mono ?_; rintro e w' ⟨rfl, rfl⟩; rw [P.out])
        go_ret
        exact ⟨ret_i (fidx_hit nowave t k [] hlt HN.out (by rw [X.out]; exact P.out)).symm, rfl⟩
      | false =>
        have P := Lib.hid hp
        clear hp
        go_wp2_with (go_at_call 229; refine (nowave_any _ _ _ hi).mono ?_; rintro e w' ⟨rfl, rfl⟩; rw [P.out])
        go_round
        case rel => exact ⟨k + 1, by omega, by go_num, fun j hj => by
          rcases Nat.lt_succ_iff_lt_or_eq.1 hj with h | rfl
          · exact HN.out j h
          · rw [X.out]; exact P.out⟩
        case measure => simp [intOf]; omega
    · have e : k = t.length := by omega
      subst e
      go_wp2
      go_ret
      exact ⟨ret_i (fidx_pre nowave t [] hn).symm, rfl⟩

set_option maxHeartbeats 400000 in
theorem contRows_any (v : Value) (t : List (List Int)) (w : World) (hv : RowsAt w v t) :
    Calls Tryz.prog 228 #[v, .func (.func 229) #[] #[]] w fun e w' => e = .returned (.bool (t.any nowave)) ∧ w = w' := by
  have E := Lib.hid (fidx_any nowave t)
  go_enter Tryz.func228, Tryz.ntmps228
  go_wp2_with (go_at_call 246; refine (idxRows_any _ _ _ hv).mono ?_; rintro e w' ⟨rfl, rfl⟩)
  go_ret
  exact ⟨by rw [← E.out]; rfl, rfl⟩

theorem vld_eq (t : List (List Int)) : vld t = (betw 1 t.length 4 && !t.any nowave) := by
  unfold vld betw
  congr 2
  · apply decide_eq_decide.2; omega
  · apply decide_eq_decide.2; omega
  · rw [List.not_any_eq_all_not]
    congr 1
    funext l
    simp [nowave]

set_option maxHeartbeats 400000 in
theorem valid_any (v : Value) (t : List (List Int)) (w : World) (hv : RowsAt w v t) :
    Calls Tryz.prog 194 #[v] w fun e w' => e = .returned (.bool (vld t)) ∧ w = w' := by
  have E := Lib.hid (vld_eq t)
  obtain ⟨a, cap, rfl, hr⟩ := id hv
  have hv' : RowsAt w (.slice a t.length cap) t := hv
  clear hv
  cases hb : betw 1 t.length 4 with
  | true =>
    have B := Lib.hid hb
    clear hb
    go_enter Tryz.func194, Tryz.ntmps194
    go_wp2_with (first | (go_at_call 201; refine (between_any _ _ _ _).mono ?_; rintro e w' ⟨rfl, rfl⟩; rw [B.out]) | (go_at_call 228; refine (contRows_any _ _ _ hv').mono ?_; rintro e w' ⟨rfl, rfl⟩))
    go_ret
    exact ⟨by rw [E.out, B.out]; rfl, rfl⟩
  | false =>
    have B := Lib.hid hb
    clear hb
    go_enter Tryz.func194, Tryz.ntmps194
    go_wp2_with (first | (go_at_call 201; refine (between_any _ _ _ _).mono ?_; rintro e w' ⟨rfl, rfl⟩; rw [B.out]))
    go_ret
    exact ⟨by rw [E.out, B.out]; rfl, rfl⟩

end Go.Proofs.YtdfkaijeppdhaaaGreatDoor.Td

/- Contracts: a tide that is copied (newTide), and what is asked of it (asked at an int). -/
namespace Go.Proofs.YtdfkaijeppdhaaaGreatDoor.Td
open Go.RowKit
theorem Tryz.info64 : (Tryz.prog.info? 284).map (fun i => (i.zero, i.size, i.bytes)) = some (some (.slice none 0 0), 1, 24) := by kernel_rfl

/-- The results of newTide for a valid tide. -/
def NewT (t : List (List Int)) (w : World) (e : Ending) (w' : World) : Prop :=
  ∃ tv, e = .returned (.tuple #[tv, .int .i64 0]) ∧ RowsAt w' tv t ∧ Below w.heap.size w w'

set_option maxHeartbeats 400000 in
theorem newTide_no (v : Value) (t : List (List Int)) (w : World) (hv : RowsAt w v t) (hno : vld t = false) :
    Calls Tryz.prog 231 #[v] w fun e w' => e = .returned (.tuple #[.slice none 0 0, .int .i64 10]) ∧ w = w' := by
  have N := Lib.hid hno
  clear hno
  go_enter Tryz.func231, Tryz.ntmps231
  go_wp2_with (go_at_call 194; refine (valid_any _ _ _ hv).mono ?_; rintro e w' ⟨rfl, rfl⟩; rw [N.out])
  go_ret2
  exact ⟨rfl, rfl⟩

set_option maxHeartbeats 400000 in
theorem newTide_yes (v : Value) (t : List (List Int)) (w : World) (hv : RowsAt w v t) (hyes : vld t = true) :
    Calls Tryz.prog 231 #[v] w (NewT t w) := by
  have T := (vld_iff t).1 hyes
  have hlo := T.lo
  have hhi := T.hi
  obtain ⟨i0, hi0, hz0, hz1, hz2⟩ := info_parts Tryz.info64
  have N := Lib.hid hyes
  clear hyes T
  obtain ⟨a, cap, rfl, hl, hq⟩ := id hv
  obtain ⟨b, off, rfl, hc⟩ := hq (by omega)
  clear hq
  go_enter Tryz.func231, Tryz.ntmps231
  go_wp2_with (go_at_call 194; refine (valid_any _ _ _ hv).mono ?_; rintro e w' ⟨rfl, rfl⟩; rw [N.out])
  clear hv
  go_loopw [4, 12] (fun o i wr => ∃ (k : Nat) (xs : List Value), k ≤ t.length ∧ i = .int .i64 k ∧ xs.length = k ∧ wr.ownsRow w.heap.size 284 1 o k xs ∧ (∀ j, j < k → IntsAt w (xs.getD j undef) (t.getD j [])) ∧ Below w.heap.size w wr)
    (fun _ i _ => t.length - (intOf i).toNat)
  case atStart => exact ⟨0, [], Nat.zero_le _, rfl, rfl, World.ownsRow_nil _ _ _ _, fun j hj => by omega, Below.refl _ _⟩
  case round =>
    obtain ⟨k, xs, hk, rfl, hxs, hown, hall, hbel⟩ := hrel
    have hsz := hbel.size
    by_cases hlt : k < t.length
    · obtain ⟨x, hx0, hi⟩ := hc k hlt
      generalize hlk : t.getD k [] = lk at hi
      have LK := Lib.hid hlk
      clear hlk
      obtain ⟨xa, xc, rfl, hxr⟩ := id hi
      clear hxr
      have hx := keep_cell hbel hx0
      have XL := Lib.hid hxs
      have HA := Lib.hid hall
      clear hc hx0 hxs hall
      go_wp2_with (at_builtin; refine wpList_append_own _ rfl _ _ 251 rfl w.heap.size 284 i0 (.slice none 0 0) 1 24 Tryz.underlying251 hi0 hz0 hz1 hz2 rfl (by decide) _ _ _ rfl (hown.alloc _) ⟨wr.heap.size, 0, none⟩ 1 1 [.slice xa lk.length xc] rfl rfl ?c1 ?c2 ?c3 ?c4 ?c5 ?_)
      case c1 => exact (cell_one_new _ _ _)
      case c2 => intro u hu; simp at hu; subst hu; rfl
      case c3 => unfold maxLen; omega
      case c4 => omega
      case c5 => simp; omega
      · intro v' w1 hown' hgrow _
        have R := below_append hbel hsz hown hgrow
        clear hown hgrow hbel
        go_wp2
        go_roundw
        case rel => exact ⟨k + 1, xs ++ [.slice xa lk.length xc], by omega, by go_num, by simp [XL.out], hown', fun j hj => by
          rcases Nat.lt_succ_iff_lt_or_eq.1 hj with h | rfl
          · rw [getD_snoc_lt _ _ _ (by rw [XL.out]; exact h)]; exact HA.out j h
          · have e := getD_snoc_eq xs (.slice xa lk.length xc) undef
            rw [XL.out] at e
            rw [e, LK.out]; exact hi, R⟩
        case measure => simp [intOf]; omega
    · have e : k = t.length := by omega
      subst e
      have XL := Lib.hid hxs
      have HA := Lib.hid hall
      clear hxs hall
      go_wp2
      go_ret2
      exact ⟨_, rfl, own_rows hown hl (fun i h => (HA.out i h).below hbel), hbel⟩

/-- What is asked of a tide: the error, and the value. -/
def qe (t : List (List Int)) (right : Bool) : Int := if vld t then (if right then 0 else 2) else 10
def qi (t : List (List Int)) (right : Bool) (x : Int) : Int := if vld t && right then x else 0

theorem qe_no {t : List (List Int)} (h : vld t = false) (r : Bool) : qe t r = 10 := by simp [qe, h]
theorem qe_mid {t : List (List Int)} (h : vld t = true) : qe t false = 2 := by simp [qe, h]
theorem qe_yes {t : List (List Int)} (h : vld t = true) : qe t true = 0 := by simp [qe, h]
theorem qi_no {t : List (List Int)} (h : vld t = false) (r : Bool) (x : Int) : qi t r x = 0 := by simp [qi, h]
theorem qi_mid {t : List (List Int)} (x : Int) : qi t false x = 0 := by simp [qi]
theorem qi_yes {t : List (List Int)} (h : vld t = true) (x : Int) : qi t true x = x := by simp [qi, h]

set_option maxHeartbeats 400000 in
theorem askedInt_any (v : Value) (t : List (List Int)) (right : Bool) (g : Nat) (lb : Array Value) (x : Int) (w : World) (hv : RowsAt w v t)
    (eg : ∀ args w, (callFunc g args).run Tryz.prog w = .ok (.enter g args) w)
    (hg : vld t = true → right = true → ∀ W tv, RowsAt W tv t → Below w.heap.size w W → Calls Tryz.prog g (#[tv] ++ lb) W fun e W' => e = .returned (.int .i64 x) ∧ Below W.heap.size W W') :
    Calls Tryz.prog 196 #[v, .bool right, .func (.func g) #[] lb] w fun e w' => e = .returned (.tuple #[.int .i64 (qi t right x), .int .i64 (qe t right)]) ∧ Below w.heap.size w w' := by
  cases hy : vld t with
  | false =>
    rw [qi_no hy, qe_no hy]
    clear hg
    go_enter Tryz.func196, Tryz.ntmps196
    go_wp2_with (go_at_call 231; refine (newTide_no _ _ _ hv hy).mono ?_; rintro e w' ⟨rfl, rfl⟩)
    go_ret2
    exact ⟨rfl, Below.refl _ _⟩
  | true =>
    cases right with
    | false =>
      rw [qi_mid, qe_mid hy]
      clear hg
      go_enter Tryz.func196, Tryz.ntmps196
      go_wp2_with (go_at_call 231; refine (newTide_yes _ _ _ hv hy).mono ?_; rintro e w' ⟨tv, rfl, hr, hb⟩)
      go_ret2
      exact ⟨rfl, hb⟩
    | true =>
      rw [qi_yes hy, qe_yes hy]
      have hg' := hg hy rfl
      have HG := Lib.hid hg'
      clear hg hg'
      go_enter Tryz.func196, Tryz.ntmps196
      go_wp2_with (first | (go_at_call 231; refine (newTide_yes _ _ _ hv hy).mono ?_; rintro e w1 ⟨tv, rfl, hr, hb⟩) | (go_at_fn g; refine (HG.out _ _ hr hb).mono ?_; rintro e w2 ⟨rfl, hb2⟩))
      go_ret2
      exact ⟨rfl, below_trans hb hb2⟩

end Go.Proofs.YtdfkaijeppdhaaaGreatDoor.Td
