/- Contracts of the leaves: between, at, speed. -/
import Derived.Test.YtflhpnhehaokpaaData
import Derived.Test.YtflhpnhehaokpaaMath
import Derived.Test.YtflhpnhehaokpaaProg
import Derived.KernelRfl
import Derived.BigQuiet
import Derived.Lib.Hide
import Derived.Deep.QuietTactic
namespace Go.Proofs.Ytflhpnhehaokpaa
open Go.RowKit

/-- The test a ≤ b ≤ c. -/
def betw (a b c : Int) : Bool := decide (a ≤ b) && decide (b ≤ c)

set_option maxHeartbeats 400000 in
theorem between_any (a b c : Int) (w : World) :
    Calls Try.prog 54 #[.int .i64 a, .int .i64 b, .int .i64 c] w fun e w' => e = .returned (.bool (betw a b c)) ∧ w = w' := by
  unfold betw
  by_cases h1 : a ≤ b
  · by_cases h2 : b ≤ c
    · go_enter Try.func54, Try.ntmps54
      go_wp2
      go_ret
      exact ⟨by simp [h1, h2], rfl⟩
    · go_enter Try.func54, Try.ntmps54
      go_wp2
      go_ret
      exact ⟨by simp [h2], rfl⟩
  · go_enter Try.func54, Try.ntmps54
    go_wp2
    go_ret
    exact ⟨by rw [decide_eq_false (show ¬ a ≤ b by omega)]; rfl, rfl⟩

theorem tmod_bd (h : Int) (n : Nat) (h0 : 0 < n) : -(n : Int) < h.tmod n ∧ h.tmod n < n := by
  have h1 := Int.tmod_lt_of_pos h (show (0 : Int) < n by omega)
  have h2 := Int.tmod_lt_of_pos (-h) (show (0 : Int) < n by omega)
  rw [Int.neg_tmod] at h2
  omega

theorem emod_neg (h : Int) (n : Nat) (h0 : 0 < n) (hn : h.tmod n < 0) : h % n = h.tmod n + n := by
  have h1 := tmod_bd h n h0
  have h2 := Int.mul_tdiv_add_tmod h n
  have e : h = (h.tmod n + n) + n * (h.tdiv n + -1) := by
    rw [Int.mul_add]
    generalize (n : Int) * h.tdiv n = x at *
    omega
  conv => lhs; rw [e]
  rw [Int.add_mul_emod_self_left]
  exact Int.emod_eq_of_lt (by omega) (by omega)

theorem emod_pos' (h : Int) (n : Nat) (h0 : 0 < n) (hn : 0 ≤ h.tmod n) : h % n = h.tmod n := by
  have h1 := tmod_bd h n h0
  have h2 := Int.mul_tdiv_add_tmod h n
  have e : h = h.tmod n + n * h.tdiv n := by omega
  conv => lhs; rw [e]
  rw [Int.add_mul_emod_self_left]
  exact Int.emod_eq_of_lt (by omega) (by omega)

theorem ret_b {a b : Bool} (h : a = b) : Ending.returned (.bool a) = .returned (.bool b) := by rw [h]
theorem ret_i {a b : Int} (h : a = b) : Ending.returned (.int .i64 a) = .returned (.int .i64 b) := by rw [h]

set_option maxHeartbeats 400000 in
theorem at_any (v : Value) (l : List Int) (h : Int) (w : World) (hv : IntsAt w v l) (h0 : 0 < l.length) :
    Calls Try.prog 71 #[v, .int .i64 h] w fun e w' => e = .returned (.int .i64 (wat l h)) ∧ w = w' := by
  obtain ⟨a, cap, rfl, hl, hq⟩ := hv
  obtain ⟨b, off, rfl, hc⟩ := hq h0
  clear hq
  have ⟨hb1, hb2⟩ := tmod_bd h l.length h0
  by_cases hn : h.tmod l.length < 0
  · have E := Lib.hid (emod_neg h l.length h0 hn)
    have hcell := hc (h.tmod l.length + l.length).toNat (by omega)
    clear hc
    generalize hx : l.getD _ 0 = x at hcell
    have X := Lib.hid hx
    clear hx
    go_enter Try.func71, Try.ntmps71
    go_wp2
    go_ret
    exact ⟨ret_i (by unfold wat; rw [E.out]; exact X.out.symm), rfl⟩
  · have E := Lib.hid (emod_pos' h l.length h0 (by omega))
    have hcell := hc (h.tmod l.length).toNat (by omega)
    clear hc
    generalize hx : l.getD _ 0 = x at hcell
    have X := Lib.hid hx
    clear hx
    go_enter Try.func71, Try.ntmps71
    go_wp2
    go_ret
    exact ⟨ret_i (by unfold wat; rw [E.out]; exact X.out.symm), rfl⟩

theorem spd_snoc (t : List (List Int)) (k : Nat) (h : Int) (hk : k < t.length) : spd (t.take (k + 1)) h = spd (t.take k) h + wat (t.getD k []) h := by
  rw [List.take_succ_eq_append_getElem hk, spd_append, spd_cons, spd_nil, List.getD_eq_getElem?_getD, List.getElem?_eq_getElem hk]
  simp

theorem getD_mem {t : List (List Int)} {k : Nat} (hk : k < t.length) : t.getD k [] ∈ t := by
  rw [List.getD_eq_getElem?_getD, List.getElem?_eq_getElem hk]; simp

set_option maxHeartbeats 400000 in
theorem speed_any (v : Value) (t : List (List Int)) (h : Int) (w : World) (hv : RowsAt w v t) (ht : Vld t) :
    Calls Try.prog 52 #[v, .int .i64 h] w fun e w' => e = .returned (.int .i64 (spd t h)) ∧ w = w' := by
  obtain ⟨a, cap, rfl, hl, hq⟩ := hv
  have hlo := ht.lo
  have hhi := ht.hi
  obtain ⟨b, off, rfl, hc⟩ := hq (by omega)
  clear hq
  go_enter Try.func52, Try.ntmps52
  go_wp2
  go_loop [5, 10] (fun s i => ∃ k : Nat, k ≤ t.length ∧ i = .int .i64 k ∧ s = .int .i64 (spd (t.take k) h)) (fun _ i => t.length - (intOf i).toNat)
  case atStart => exact ⟨0, Nat.zero_le _, rfl, rfl⟩
  case round =>
    obtain ⟨k, hk, rfl, rfl⟩ := hrel
    by_cases hlt : k < t.length
    · obtain ⟨x, hx, hi⟩ := hc k hlt
      have hw := ht.wave _ (getD_mem hlt)
      have E := Lib.hid (spd_snoc t k h hlt)
      have b1 := spd_bound (t.take k) (fun l hl => (ht.wave l (List.mem_of_mem_take hl)).2.2) h
      have b2 := wat_bound hw.2.2 h
      have hlen : (t.take k).length ≤ k := List.length_take_le _ _
      have hw1 := hw.1
      have ht4 : t.length ≤ 4 := hhi
      generalize t.getD k [] = lk at *
      generalize spd (t.take k) h = s at *
      clear hc hw
      go_wp2_with (go_at_call 71; refine (at_any _ _ _ _ hi hw1).mono ?_; rintro e w' ⟨rfl, rfl⟩)
      go_round
      case rel => exact ⟨k + 1, by omega, by go_num, by rw [E.out]⟩
      case measure => simp [intOf]; omega
    · have e : k = t.length := by omega
      subst e
      go_wp2
      go_ret
      exact ⟨ret_i (by simp), rfl⟩

end Go.Proofs.Ytflhpnhehaokpaa
