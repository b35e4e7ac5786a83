/- Contracts of the laws' helpers: awards that can be those of a rule; at most. What awards by a rule are. -/
import Derived.Test.YtaakefjblldccaaLawC
import Derived.Test.YtaakefjblldccaaLawB
import Derived.Test.YtaakefjblldccaaWat3
namespace Go.Proofs.Ytaakefjblldccaa
open Go.RowKit

/-- Each can be an award of a rule. -/
def Okv (c : List Int) (l : List Rat2) : Prop := l.length = c.length ∧ ∀ k, k < c.length → 1 ≤ (l.getD k (0, 0)).2 ∧ (l.getD k (0, 0)).2 ≤ 10000 ∧ 0 ≤ (l.getD k (0, 0)).1 ∧ (l.getD k (0, 0)).1 ≤ c.getD k 0 * (l.getD k (0, 0)).2

theorem getD_map0 {f : Int → Rat2} {c : List Int} {k : Nat} (hk : k < c.length) : (c.map f).getD k (0, 0) = f (c.getD k 0) := by
  simp [List.getD_eq_getElem?_getD, hk]

theorem shr_okv {c : List Int} {e : Int} {l : List Rat2} {f : Int → Int} {Q : Int} (h : Shr c e l f Q) : Okv c l := by
  refine ⟨by rw [h.aw, List.length_map], fun k hk => ?_⟩
  have hm := mem_getD hk
  have := red_in h.hQ (h.lo _ hm) (h.hi _ hm)
  have hq := h.hQ2
  rw [h.aw, getD_map0 hk]
  omega

set_option maxRecDepth 100000 in
set_option maxHeartbeats 2000000 in
theorem valid_ok (v x : Value) (c : List Int) (l : List Rat2) (w : World) (hv : IntsAt w v c) (hx : RatsAt w x l) (hc : Cvl c) (ho : Okv c l) :
    Calls Try.prog 43 #[v, x] w fun e w' => e = .returned (.bool true) ∧ Below w.heap.size w w' := by
  obtain ⟨hlen, hok⟩ := ho
  have hlo := hc.lo
  have hhi := hc.hi
  have HH := Lib.hid hc
  obtain ⟨b, off, cap, rfl, hcc⟩ := ints_cell hv (by omega)
  obtain ⟨b2, off2, cap2, hcap, rfl, hcl⟩ := rats_cell hx (by omega)
  have HC := Lib.hid hcc
  have HR := Lib.hid hcl
  have HK := Lib.hid hok
  have l1 : l.length ≤ c.length := by omega
  have l2 : c.length ≤ l.length := by omega
  have leq : (((l.length : Nat) : Int) == ((c.length : Nat) : Int)) = true := by rw [beq_iff_eq]; omega
  clear hv hx hcc hcl hok hc hlen
  go_enter Try.func43, Try.ntmps43
  go_wp2
  go_loopw [5] (fun i wr => ∃ k : Nat, k ≤ l.length ∧ i = .int .i64 k ∧ Below w.heap.size w wr) (fun i _ => l.length - (intOf i).toNat)
  case atStart => exact ⟨0, Nat.zero_le _, rfl, Below.refl _ _⟩
  case round =>
    obtain ⟨k, hk, rfl, hbel⟩ := hrel
    by_cases hlt : k < l.length
    · have hkc : k < c.length := by omega
      obtain ⟨x0, d0⟩ := HR.out k hlt
      have x1 := keep_cell hbel x0
      have d1 := keep_cell hbel d0
      have c1 := keep_cell hbel (HC.out k hkc)
      have hx := HK.out k hkc
      have hcb := HH.out.holds _ (mem_getD hkc)
      clear x0 d0
      generalize l.getD k (0, 0) = xd at *
      obtain ⟨n, d⟩ := xd
      simp only at x1 d1 hx
      generalize c.getD k 0 = cl at *
      have m1 : 0 ≤ cl * d ∧ cl * d ≤ 1000 * 10000 := ⟨Int.mul_nonneg (by omega) (by omega), Int.mul_le_mul (by omega) (by omega) (by omega) (by omega)⟩
      have e1 : decide (d < 1) = false := decide_eq_false (by omega)
      have e2 : decide (10000 < d) = false := decide_eq_false (by omega)
      have e3 : decide (n < 0) = false := decide_eq_false (by omega)
      have e4 : decide (cl * d < n) = false := decide_eq_false (by omega)
      go_wp2
      refine wp_region_quiet_lit (by kernel_rfl) (by kernel_rfl) ?_
      repeat (any_goals (first | go_big_quiet_step (fail) | quiet_step (fail)))
      all_goals (refine wpQuiet_nil ?_; intro _ hw'; obtain ⟨nq, hw''⟩ := hw'; subst hw'')
      all_goals go_wp2
      go_roundw
      case rel => exact ⟨k + 1, by omega, by go_num, below_drewN hbel _⟩
      case measure => simp [intOf]; omega
    · have e : k = l.length := by omega
      subst e
      go_wp2
      go_ret
      exact ⟨rfl, hbel⟩

set_option maxHeartbeats 400000 in
theorem most_any (a b c d : Int) (w : World) (h1 : -1000000000000000000 ≤ a * d ∧ a * d ≤ 1000000000000000000) (h2 : -1000000000000000000 ≤ c * b ∧ c * b ≤ 1000000000000000000) :
    Calls Try.prog 44 #[.agg #[.int .i64 a, .int .i64 b], .agg #[.int .i64 c, .int .i64 d]] w fun e w' => e = .returned (.bool (decide (a * d ≤ c * b))) ∧ Below w.heap.size w w' := by
  have hal := two_boxes w (.int .i64 a) (.int .i64 b) (.int .i64 c) (.int .i64 d) 23
  go_enter Try.func44, Try.ntmps44
  go_wp2
  go_ret
  exact ⟨rfl, hal⟩

theorem Cvl.shr2 {c : List Int} (h : Cvl c) {e r : Int} (he : 0 ≤ e) (hs : e ≤ Go.Proofs.Ytaakefjblldccaa.tot c) (hr : 1 ≤ r ∧ r ≤ 4) : Shr c e (shareL c e r) (frF c e r) (frQ c e r) := share_shr2 h.ne h.pos h.hi h.tot.2 he hs hr

end Go.Proofs.Ytaakefjblldccaa
