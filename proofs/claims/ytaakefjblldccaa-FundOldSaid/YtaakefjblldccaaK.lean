/- Texts of this claim, laid together: G, H, I, J, K. -/
import Derived.Test.YtaakefjblldccaaF

/- Contracts: which ratios are awards, of both. -/
namespace Go.Proofs.Ytaakefjblldccaa
open Go.RowKit

/-- A ratio is one of awards as described. -/
def awd (x : Rat2) : Bool := betw (-1000000000) x.1 1000000000 && betw 1 x.2 1000000
def noawd (x : Rat2) : Bool := !awd x

set_option maxHeartbeats 1000000 in
theorem isAward_any (n d : Int) (w : World) :
    Calls Try.prog 93 #[.agg #[.int .i64 n, .int .i64 d]] w fun e w' => e = .returned (.bool (awd (n, d))) ∧ Below w.heap.size w w' := by
  unfold awd
  cases hb : betw (-1000000000) n 1000000000 with
  | false =>
    have B := Lib.hid hb
    clear hb
    go_enter Try.func93, Try.ntmps93
    go_wp2_with fail
    refine (between_any _ _ _ _).mono ?_
    rintro e w' ⟨rfl, rfl⟩
    rw [B.out]
    go_wp2
    go_ret
    exact ⟨rfl, (Below.refl _ _).alloc (Nat.le_refl _) _⟩
  | true =>
    have B := Lib.hid hb
    clear hb
    go_enter Try.func93, Try.ntmps93
    go_wp2_with fail
    refine (between_any _ _ _ _).mono ?_
    rintro e w' ⟨rfl, rfl⟩
    rw [B.out]
    go_wp2_with fail
    refine (between_any _ _ _ _).mono ?_
    rintro e w' ⟨rfl, rfl⟩
    go_wp2
    go_ret
    exact ⟨rfl, (Below.refl _ _).alloc (Nat.le_refl _) _⟩

set_option maxHeartbeats 1000000 in
theorem noAward_any (n d : Int) (w : World) :
    Calls Try.prog 92 #[.agg #[.int .i64 n, .int .i64 d]] w fun e w' => e = .returned (.bool (noawd (n, d))) ∧ Below w.heap.size w w' := by
  have hal : Below w.heap.size w (w.alloc (.cells #[.int .i64 n, .int .i64 d] 23)) := (Below.refl _ w).alloc (Nat.le_refl _) _
  unfold noawd
  go_enter Try.func92, Try.ntmps92
  go_wp2_with fail
  refine (isAward_any _ _ _).mono ?_
  rintro e w1 ⟨rfl, hb1⟩
  go_wp2
  go_ret
  exact ⟨rfl, below_trans hal hb1⟩

set_option maxHeartbeats 1000000 in
theorem idxRat_any (v : Value) (l : List Rat2) (w : World) (hv : RatsAt w v l) :
    Calls Try.prog 112 #[v, .func (.func 92) #[] #[]] w fun e w' => e = .returned (.int .i64 (fidx noawd l)) ∧ Below w.heap.size w w' := by
  obtain ⟨a, cap, rfl, hl, hq⟩ := hv
  go_enter Try.func112, Try.ntmps112
  go_wp2
  go_loopw [8] (fun i wr => ∃ k : Nat, k ≤ l.length ∧ i = .int .i64 k ∧ Hid (∀ j, j < k → noawd (l.getD j (0, 0)) = false) ∧ Below w.heap.size w wr) (fun i _ => l.length - (intOf i).toNat)
  case atStart => exact ⟨0, Nat.zero_le _, rfl, Lib.hid (fun j hj => by omega), Below.refl _ _⟩
  case round =>
    obtain ⟨k, hk, rfl, HN, hbel⟩ := hrel
    by_cases hlt : k < l.length
    · obtain ⟨b, off, rfl, hc⟩ := hq (by omega)
      obtain ⟨x0, d0⟩ := hc k hlt
      have x1 := keep_cell hbel x0
      have d1 := keep_cell hbel d0
      clear hc hq x0 d0
      generalize hx : l.getD k (0, 0) = xd at *
      obtain ⟨x, d⟩ := xd
      simp only at x1 d1
      have X := Lib.hid hx
      clear hx
      cases hp : noawd (x, d) with
      | true =>
        have P := Lib.hid hp
        clear hp
        go_wp2_with fail
        refine (noAward_any _ _ _).mono ?_
        rintro e w1 ⟨rfl, hb1⟩
        rw [P.out]
        go_wp2
        go_ret
        exact ⟨ret_i (fidx_hit noawd l k (0, 0) hlt HN.out (by rw [X.out]; exact P.out)).symm, below_trans hbel hb1⟩
      | false =>
        have P := Lib.hid hp
        clear hp
        go_wp2_with fail
        refine (noAward_any _ _ _).mono ?_
        rintro e w1 ⟨rfl, hb1⟩
        rw [P.out]
        go_wp2
        go_roundw
        case rel => exact ⟨k + 1, by omega, by go_num, Lib.hid (fun j hj => by
          rcases Nat.lt_succ_iff_lt_or_eq.1 hj with h | rfl
          · exact HN.out j h
          · rw [X.out]; exact P.out), below_trans hbel hb1⟩
        case measure => simp [intOf]; omega
    · have e : k = l.length := by omega
      subst e
      go_wp2
      go_ret
      exact ⟨ret_i (fidx_pre noawd l (0, 0) HN.out).symm, hbel⟩

set_option maxHeartbeats 1000000 in
theorem contRat_any (v : Value) (l : List Rat2) (w : World) (hv : RatsAt w v l) :
    Calls Try.prog 91 #[v, .func (.func 92) #[] #[]] w fun e w' => e = .returned (.bool (l.any noawd)) ∧ Below w.heap.size w w' := by
  have E := Lib.hid (fidx_any noawd l)
  go_enter Try.func91, Try.ntmps91
  go_wp2_with fail
  refine (idxRat_any _ _ _ hv).mono ?_
  rintro e w1 ⟨rfl, hb1⟩
  go_wp2
  go_ret
  exact ⟨by rw [← E.out]; rfl, hb1⟩

end Go.Proofs.Ytaakefjblldccaa

/- Contracts: AreAwards of the reference; the first error of awards, of both. -/
namespace Go.Proofs.Ytaakefjblldccaa
open Go.RowKit

/-- As many awards as claims, each as described. -/
def arA (c : List Int) (l : List Rat2) : Bool := (l.length == c.length) && !l.any noawd

theorem arA_bad {c : List Int} {l : List Rat2} {k : Nat} (hk : k < l.length) (h : noawd (l.getD k (0, 0)) = true) : arA c l = false := by
  unfold arA
  have : l.any noawd = true := List.any_eq_true.2 ⟨_, getD_mem2 hk, h⟩
  rw [this]; simp
theorem arA_good {c : List Int} {l : List Rat2} (h : ∀ j, j < l.length → noawd (l.getD j (0, 0)) = false) : arA c l = (l.length == c.length) := by
  unfold arA
  have : l.any noawd = false := List.any_eq_false.2 fun x hx => by
    obtain ⟨i, hi, rfl⟩ := List.getElem_of_mem hx
    have := h i hi
    rw [List.getD_eq_getElem?_getD, List.getElem?_eq_getElem hi] at this
    simpa using this
  rw [this]; simp
theorem arA_long {c : List Int} {l : List Rat2} (h : l.length ≠ c.length) : arA c l = false := by
  unfold arA
  rw [beq_eq_false_iff_ne.2 h]; rfl

set_option maxHeartbeats 1000000 in
theorem rAreAwards_any (v x : Value) (c : List Int) (l : List Rat2) (w : World) (hv : IntsAt w v c) (hx : RatsAt w x l) :
    Calls Try.prog 60 #[v, x] w fun e w' => e = .returned (.bool (arA c l)) ∧ w = w' := by
  obtain ⟨ca, ccap, rfl, hcl, _⟩ := hv
  obtain ⟨a, cap, rfl, hl, hq⟩ := hx
  go_enter Try.func60, Try.ntmps60
  go_wp2
  go_loop [5] (fun i => ∃ k : Nat, k ≤ l.length ∧ k ≤ c.length + 1 ∧ i = .int .i64 k ∧ Hid (∀ j, j < k → noawd (l.getD j (0, 0)) = false)) (fun i => l.length - (intOf i).toNat)
  case atStart => exact ⟨0, Nat.zero_le _, by omega, rfl, Lib.hid (fun j hj => by omega)⟩
  case round =>
    obtain ⟨k, hk, hkc, rfl, HN⟩ := hrel
    by_cases hlt : k < l.length
    · by_cases hle : k ≤ c.length
      · obtain ⟨b, off, rfl, hc⟩ := hq (by omega)
        obtain ⟨x1, d1⟩ := hc k hlt
        clear hc hq
        generalize hx : l.getD k (0, 0) = xd at *
        obtain ⟨n, d⟩ := xd
        simp only at x1 d1
        have X := Lib.hid hx
        clear hx
        cases hb : betw (-1000000000) n 1000000000 with
        | false =>
          have B := Lib.hid hb
          clear hb
          have R := Lib.hid (arA_bad (c := c) hlt (by rw [X.out]; unfold noawd awd; rw [B.out]; rfl))
          go_wp2_with fail
          refine (within_any _ _ _ _).mono ?_
          rintro e w' ⟨rfl, rfl⟩
          rw [B.out]
          go_wp2
          go_ret
          exact ⟨ret_b R.out.symm, rfl⟩
        | true =>
          have B := Lib.hid hb
          clear hb
          cases hd : betw 1 d 1000000 with
          | false =>
            have D := Lib.hid hd
            clear hd
            have R := Lib.hid (arA_bad (c := c) hlt (by rw [X.out]; unfold noawd awd; rw [B.out, D.out]; rfl))
            go_wp2_with fail
            refine (within_any _ _ _ _).mono ?_
            rintro e w' ⟨rfl, rfl⟩
            rw [B.out]
            go_wp2_with fail
            refine (within_any _ _ _ _).mono ?_
            rintro e w' ⟨rfl, rfl⟩
            rw [D.out]
            go_wp2
            go_ret
            exact ⟨ret_b R.out.symm, rfl⟩
          | true =>
            have D := Lib.hid hd
            clear hd
            go_wp2_with fail
            refine (within_any _ _ _ _).mono ?_
            rintro e w' ⟨rfl, rfl⟩
            rw [B.out]
            go_wp2_with fail
            refine (within_any _ _ _ _).mono ?_
            rintro e w' ⟨rfl, rfl⟩
            rw [D.out]
            go_wp2
            go_round
            case rel => exact ⟨k + 1, by omega, by omega, by go_num, Lib.hid (fun j hj => by
              rcases Nat.lt_succ_iff_lt_or_eq.1 hj with h | rfl
              · exact HN.out j h
              · rw [X.out]; unfold noawd awd; rw [B.out, D.out]; rfl)⟩
            case measure => simp [intOf]; omega
      · have R := Lib.hid (arA_long (c := c) (l := l) (by omega))
        have hb : (((l.length : Nat) : Int) == ((c.length : Nat) : Int)) = false := by rw [beq_eq_false_iff_ne]; omega
        go_wp2
        go_ret
        exact ⟨ret_b R.out.symm, rfl⟩
    · have e : k = l.length := by omega
      subst e
      have R := Lib.hid (arA_good (c := c) HN.out)
      cases hb : (l.length == c.length) with
      | true =>
        have hb' : (((l.length : Nat) : Int) == ((c.length : Nat) : Int)) = true := by rw [beq_iff_eq] at hb ⊢; omega
        have B := Lib.hid hb
        clear hb
        go_wp2
        go_ret
        exact ⟨ret_b (by rw [R.out, B.out]), rfl⟩
      | false =>
        have hb' : (((l.length : Nat) : Int) == ((c.length : Nat) : Int)) = false := by rw [beq_eq_false_iff_ne] at hb ⊢; omega
        have B := Lib.hid hb
        clear hb
        go_wp2
        go_ret
        exact ⟨ret_b (by rw [R.out, B.out]), rfl⟩

end Go.Proofs.Ytaakefjblldccaa

/- Contracts: whether awards share an estate, of both. -/
namespace Go.Proofs.Ytaakefjblldccaa
open Go.RowKit

/-- Each award is from 0 to its claim. -/
def inB (c : List Int) (l : List Rat2) (k : Nat) : Bool := decide (0 ≤ (l.getD k (0, 0)).1) && decide ((l.getD k (0, 0)).1 ≤ c.getD k 0 * (l.getD k (0, 0)).2)
def inAll (c : List Int) (l : List Rat2) : Bool := (List.range l.length).all (inB c l)
/-- Awards share an estate. -/
def shB (c : List Int) (n : Int) (l : List Rat2) : Bool := inAll c l && addUp l n

theorem awd_bd {c : List Int} {l : List Rat2} (h : arA c l = true) {k : Nat} (hk : k < l.length) : -1000000000 ≤ (l.getD k (0, 0)).1 ∧ (l.getD k (0, 0)).1 ≤ 1000000000 ∧ 1 ≤ (l.getD k (0, 0)).2 ∧ (l.getD k (0, 0)).2 ≤ 1000000 := by
  unfold arA at h
  rw [Bool.and_eq_true, Bool.not_eq_true', List.any_eq_false] at h
  have := h.2 _ (getD_mem2 hk)
  simp only [noawd, awd, Bool.not_eq_true', Bool.not_eq_false, Bool.and_eq_true, betw_iff] at this
  omega

theorem small_of {c : List Int} {l : List Rat2} (hc : Cvl c) (h : arA c l = true) (hi : ∀ k, k < l.length → inB c l k = true) : Small l := fun x hx => by
  obtain ⟨k, hk, rfl⟩ := List.getElem_of_mem hx
  have e : l.getD k (0, 0) = l[k] := by rw [List.getD_eq_getElem?_getD, List.getElem?_eq_getElem hk]; rfl
  have b := awd_bd h hk
  have i := hi k hk
  unfold inB at i
  rw [e] at b i
  rw [Bool.and_eq_true, decide_eq_true_eq, decide_eq_true_eq] at i
  have hl : l.length = c.length := by
    unfold arA at h
    rw [Bool.and_eq_true, beq_iff_eq] at h
    exact h.1
  have hck := hc.holds _ (mem_getD (show k < c.length by omega))
  have h2 : c.getD k 0 * (l[k]).2 ≤ 1000 * (l[k]).2 := Int.mul_le_mul_of_nonneg_right hck.2 (by omega)
  exact ⟨i.1, by omega, by omega, by omega⟩

theorem inAll_bad {c : List Int} {l : List Rat2} {k : Nat} (hk : k < l.length) (h : inB c l k = false) (n : Int) : shB c n l = false := by
  have : inAll c l = false := by
    unfold inAll
    rw [List.all_eq_false]
    exact ⟨k, List.mem_range.2 hk, by rw [h]; decide⟩
  unfold shB
  rw [this]; rfl
theorem inAll_good {c : List Int} {l : List Rat2} (h : ∀ k, k < l.length → inB c l k = true) (n : Int) : shB c n l = addUp l n := by
  have : inAll c l = true := by
    unfold inAll
    rw [List.all_eq_true]
    exact fun k hk => h k (List.mem_range.1 hk)
  unfold shB
  rw [this]; rfl

set_option maxHeartbeats 2000000 in
theorem shares_any (v x : Value) (c : List Int) (l : List Rat2) (n : Int) (w : World) (hv : IntsAt w v c) (hx : RatsAt w x l) (hc : Cvl c) (ha : arA c l = true) (hn : 0 ≤ n ∧ n ≤ 8000) :
    Calls Try.prog 58 #[v, .int .i64 n, x] w fun e w' => e = .returned (.bool (shB c n l)) ∧ Below w.heap.size w w' := by
  have hlen : l.length = c.length := by
    unfold arA at ha
    rw [Bool.and_eq_true, beq_iff_eq] at ha
    exact ha.1
  have hlo := hc.lo
  have hhi := hc.hi
  have HX := Lib.hid hx
  have l8 : l.length ≤ 8 := by omega
  have l0 : 0 < l.length := by omega
  have lc : l.length ≤ c.length := by omega
  obtain ⟨b, off, cap, rfl, hcc⟩ := ints_cell hv (by omega)
  obtain ⟨b2, off2, cap2, hcap, rfl, hcl⟩ := rats_cell hx l0
  have HA := Lib.hid ha
  have HC := Lib.hid hc
  clear hv hx ha hc hlen
  go_enter Try.func58, Try.ntmps58
  go_wp2
  go_loopw [11] (fun i wr => ∃ k : Nat, k ≤ l.length ∧ i = .int .i64 k ∧ Hid (∀ j, j < k → inB c l j = true) ∧ Below w.heap.size w wr) (fun i _ => l.length - (intOf i).toNat)
  case atStart => exact ⟨0, Nat.zero_le _, rfl, Lib.hid (fun j hj => by omega), Below.refl _ _⟩
  case round =>
    obtain ⟨k, hk, rfl, H, hbel⟩ := hrel
    by_cases hlt : k < l.length
    · have c1 := keep_cell hbel (hcc k (by omega))
      obtain ⟨x0, d0⟩ := hcl k hlt
      have x1 := keep_cell hbel x0
      have d1 := keep_cell hbel d0
      have bd := awd_bd HA.out hlt
      have cb := HC.out.holds _ (mem_getD (show k < c.length by omega))
      have IB : Hid (inB c l k = (decide (0 ≤ (l.getD k (0, 0)).1) && decide ((l.getD k (0, 0)).1 ≤ c.getD k 0 * (l.getD k (0, 0)).2))) := Lib.hid rfl
      have hsz := hbel.size
      have hkc : k < c.length := by omega
      have hbl : b < wr.heap.size := World.block_lt_of_cell? _ _ c1
      clear hcc hcl x0 d0
      generalize l.getD k (0, 0) = xd at *
      obtain ⟨x, d⟩ := xd
      simp only at x1 d1 bd IB
      generalize c.getD k 0 = cl at *
      have m1 : 0 ≤ cl * d ∧ cl * d ≤ 1000 * 1000000 := ⟨Int.mul_nonneg (by omega) (by omega), Int.mul_le_mul (by omega) (by omega) (by omega) (by omega)⟩
      by_cases h1 : x < 0
      · have e1 : decide (x < 0) = true := decide_eq_true h1
        have R := Lib.hid (inAll_bad hlt (by rw [IB.out, decide_eq_false (by omega)]; rfl) n)
        go_wp2
        refine wp_region_quiet_lit (by kernel_rfl) (by kernel_rfl) ?_
        repeat (any_goals (first | go_big_quiet_step (fail) | quiet_step (fail)))
        all_goals (refine wpQuiet_nil ?_; intro _ hw'; obtain ⟨nq, hw''⟩ := hw'; subst hw'')
        all_goals go_wp2
        go_ret
        exact ⟨ret_b R.out.symm, below_drewN (hbel.alloc hsz _) _⟩
      · have e1 : decide (x < 0) = false := decide_eq_false h1
        by_cases h2 : cl * d < x
        · have e2 : decide (cl * d < x) = true := decide_eq_true h2
          have R := Lib.hid (inAll_bad hlt (by rw [IB.out, decide_eq_false (show ¬ x ≤ cl * d by omega), Bool.and_false]) n)
          go_wp2
          refine wp_region_quiet_lit (by kernel_rfl) (by kernel_rfl) ?_
          repeat (any_goals (first | go_big_quiet_step (fail) | quiet_step (fail)))
          all_goals (refine wpQuiet_nil ?_; intro _ hw'; obtain ⟨nq, hw''⟩ := hw'; subst hw'')
          all_goals go_wp2
          go_ret
          exact ⟨ret_b R.out.symm, below_drewN (hbel.alloc hsz _) _⟩
        · have e2 : decide (cl * d < x) = false := decide_eq_false h2
          have H2 : Hid (∀ j, j < k + 1 → inB c l j = true) := Lib.hid (fun j hj => by
            rcases Nat.lt_succ_iff_lt_or_eq.1 hj with h | rfl
            · exact H.out j h
            · rw [IB.out, decide_eq_true (by omega), decide_eq_true (by omega)]; rfl)
          go_wp2
          refine wp_region_quiet_lit (by kernel_rfl) (by kernel_rfl) ?_
          repeat (any_goals (first | go_big_quiet_step (fail) | quiet_step (fail)))
          all_goals (refine wpQuiet_nil ?_; intro _ hw'; obtain ⟨nq, hw''⟩ := hw'; subst hw'')
          all_goals go_wp2
          go_roundw
          case rel => exact ⟨k + 1, by omega, by go_num, H2, below_drewN (hbel.alloc hsz _) _⟩
          case measure => simp [intOf]; omega
    · have e : k = l.length := by omega
      subst e
      have hS := small_of HC.out HA.out H.out
      have R : Hid ((primes.all fun p => okp l n p) = shB c n l) := Lib.hid ((addUp_of primes_co primes_big hS l8 hn).trans (inAll_good H.out n).symm)
      have hx2 := HX.out.below hbel
      go_wp2_with fail
      refine (adds_any _ _ _ _ hx2 hS l0 l8 hn).mono ?_
      rintro e w1 ⟨rfl, hb1⟩
      go_wp2
      go_ret
      exact ⟨ret_b R.out, below_trans hbel hb1⟩

end Go.Proofs.Ytaakefjblldccaa

/- Contract: whether awards share an estate, of the reference. -/
namespace Go.Proofs.Ytaakefjblldccaa
open Go.RowKit

theorem within_q (a b c : Int) (w : World) (q : Nat) :
    Calls Try.prog 55 #[.int .i64 a, .int .i64 b, .int .i64 c] (w.drewN q) fun e w'' => e = .returned (.bool (betw a b c)) ∧ ∃ k, w'' = w.drewN k :=
  Calls.quiet_of_same ((within_any a b c (w.drewN q)).mono fun _ _ h => ⟨h.1, h.2.symm⟩)

set_option maxHeartbeats 2000000 in
theorem rshares_any (v x : Value) (c : List Int) (l : List Rat2) (n : Int) (w : World) (hv : IntsAt w v c) (hx : RatsAt w x l) (hc : Cvl c) (ha : arA c l = true) (hn : 0 ≤ n ∧ n ≤ 8000) :
    Calls Try.prog 61 #[v, .int .i64 n, x] w fun e w' => e = .returned (.bool (shB c n l)) ∧ Below w.heap.size w w' := by
  have hlen : l.length = c.length := by
    unfold arA at ha
    rw [Bool.and_eq_true, beq_iff_eq] at ha
    exact ha.1
  have hlo := hc.lo
  have hhi := hc.hi
  have HX := Lib.hid hx
  have l8 : l.length ≤ 8 := by omega
  have l0 : 0 < l.length := by omega
  have lc : l.length ≤ c.length := by omega
  have lc2 : c.length ≤ l.length := by omega
  obtain ⟨b, off, cap, rfl, hcc⟩ := ints_cell hv (by omega)
  obtain ⟨b2, off2, cap2, hcap, rfl, hcl⟩ := rats_cell hx l0
  have HA := Lib.hid ha
  have HC := Lib.hid hc
  clear hv hx ha hc hlen
  go_enter Try.func61, Try.ntmps61
  go_wp2
  go_loopw [7] (fun i wr => ∃ k : Nat, k ≤ c.length ∧ i = .int .i64 k ∧ Hid (∀ j, j < k → inB c l j = true) ∧ Below w.heap.size w wr) (fun i _ => c.length - (intOf i).toNat)
  case atStart => exact ⟨0, Nat.zero_le _, rfl, Lib.hid (fun j hj => by omega), Below.refl _ _⟩
  case round =>
    obtain ⟨k, hk, rfl, H, hbel⟩ := hrel
    by_cases hlt : k < c.length
    · have hlk : k < l.length := by omega
      have c1 := keep_cell hbel (hcc k hlt)
      obtain ⟨x0, d0⟩ := hcl k hlk
      have x1 := keep_cell hbel x0
      have d1 := keep_cell hbel d0
      have bd := awd_bd HA.out hlk
      have cb := HC.out.holds _ (mem_getD hlt)
      have IB : Hid (inB c l k = betw 0 (l.getD k (0, 0)).1 (c.getD k 0 * (l.getD k (0, 0)).2)) := Lib.hid rfl
      clear hcc hcl x0 d0
      generalize l.getD k (0, 0) = xd at *
      obtain ⟨x, d⟩ := xd
      simp only at x1 d1 bd IB
      generalize c.getD k 0 = cl at *
      have m1 : 0 ≤ cl * d ∧ cl * d ≤ 1000 * 1000000 := ⟨Int.mul_nonneg (by omega) (by omega), Int.mul_le_mul (by omega) (by omega) (by omega) (by omega)⟩
      have HW := Lib.hid (fun q => within_q 0 x (cl * d) wr q)
      cases hb : betw 0 x (cl * d) with
      | false =>
        have B := Lib.hid hb
        have R := Lib.hid (inAll_bad hlk (by rw [IB.out, hb]) n)
        clear hb
        go_wp2
        refine wp_region_quiet_lit (by kernel_rfl) (by kernel_rfl) ?_
        repeat (any_goals (first | go_big_quiet_step ((go_at_call 55; with_reducible exact HW.out _)) | quiet_step (fail)))
        all_goals (refine wpQuiet_nil ?_; intro _ hw'; obtain ⟨nq, hw''⟩ := hw'; subst hw'')
        rw [B.out]
        go_wp2
        go_ret
        exact ⟨ret_b R.out.symm, below_drewN hbel _⟩
      | true =>
        have B := Lib.hid hb
        have H2 : Hid (∀ j, j < k + 1 → inB c l j = true) := Lib.hid (fun j hj => by
          rcases Nat.lt_succ_iff_lt_or_eq.1 hj with h | rfl
          · exact H.out j h
          · rw [IB.out]; exact hb)
        clear hb
        go_wp2
        refine wp_region_quiet_lit (by kernel_rfl) (by kernel_rfl) ?_
        repeat (any_goals (first | go_big_quiet_step ((go_at_call 55; with_reducible exact HW.out _)) | quiet_step (fail)))
        all_goals (refine wpQuiet_nil ?_; intro _ hw'; obtain ⟨nq, hw''⟩ := hw'; subst hw'')
        rw [B.out]
        go_wp2
        go_roundw
        case rel => exact ⟨k + 1, by omega, by go_num, H2, below_drewN hbel _⟩
        case measure => simp [intOf]; omega
    · have e : k = c.length := by omega
      subst e
      have hall : ∀ j, j < l.length → inB c l j = true := fun j hj => H.out j (by omega)
      have hS := small_of HC.out HA.out hall
      have R : Hid ((modes.all fun p => okp l n p) = shB c n l) := Lib.hid ((addUp_of modes_co modes_big hS l8 hn).trans (inAll_good hall n).symm)
      have hx2 := HX.out.below hbel
      clear hall
      go_wp2_with fail
      refine (addsUp_any _ _ _ _ hx2 hS l0 l8 hn).mono ?_
      rintro e w1 ⟨rfl, hb1⟩
      go_wp2
      go_ret
      exact ⟨ret_b R.out, below_trans hbel hb1⟩

end Go.Proofs.Ytaakefjblldccaa

/- Contracts: the first error of awards; Shares of both. -/
namespace Go.Proofs.Ytaakefjblldccaa
open Go.RowKit

/-- The first error of claims, an estate and awards. -/
def awE (c : List Int) (n : Int) (l : List Rat2) : Int := if askE c n = 0 then (if arA c l then 0 else 2) else askE c n
def sV (c : List Int) (n : Int) (l : List Rat2) : Bool := decide (awE c n l = 0) && shB c n l

theorem askE_ok {c : List Int} {n : Int} (h : askE c n = 0) : Cvl c ∧ 0 ≤ n ∧ n ≤ 8000 := by
  unfold askE at h
  split at h
  · rename_i h1
    split at h
    · rename_i h2
      have hc := (cvl_iff c).1 h1
      have hb := (betw_iff _ _ _).1 h2
      have ht := tot_bd hc c.length (Nat.le_refl _)
      rw [List.take_length] at ht
      have := hc.hi
      exact ⟨hc, by omega, by omega⟩
    · omega
  · omega

set_option maxHeartbeats 1000000 in
theorem awarded_any (v x : Value) (c : List Int) (l : List Rat2) (n : Int) (w : World) (hv : IntsAt w v c) (hx : RatsAt w x l) :
    Calls Try.prog 57 #[v, .int .i64 n, x] w fun e w' => e = .returned (.int .i64 (awE c n l)) ∧ Below w.heap.size w w' := by
  obtain ⟨ca, ccap, rfl, hcr⟩ := id hv
  obtain ⟨a, cap, rfl, hlr⟩ := id hx
  clear hcr hlr
  unfold awE
  by_cases h0 : askE c n = 0
  · rw [if_pos h0]
    have A := Lib.hid h0
    clear h0
    by_cases hl : l.length = c.length
    · have hb : (((l.length : Nat) : Int) != ((c.length : Nat) : Int)) = false := by rw [bne_eq_false_iff_eq]; omega
      have R : Hid (arA c l = !l.any noawd) := Lib.hid (by unfold arA; rw [beq_iff_eq.2 hl]; rfl)
      rw [R.out]
      clear hl
      cases hp : l.any noawd with
      | true =>
        have P := Lib.hid hp
        clear hp
        go_enter Try.func57, Try.ntmps57
        go_wp2_with fail
        refine (checked_any _ _ _ _ hv).mono ?_
        rintro e w' ⟨rfl, rfl⟩
        rw [A.out]
        go_wp2_with fail
        refine (contRat_any _ _ _ hx).mono ?_
        rintro e w1 ⟨rfl, hb1⟩
        rw [P.out]
        go_wp2
        go_ret
        exact ⟨rfl, hb1⟩
      | false =>
        have P := Lib.hid hp
        clear hp
        go_enter Try.func57, Try.ntmps57
        go_wp2_with fail
        refine (checked_any _ _ _ _ hv).mono ?_
        rintro e w' ⟨rfl, rfl⟩
        rw [A.out]
        go_wp2_with fail
        refine (contRat_any _ _ _ hx).mono ?_
        rintro e w1 ⟨rfl, hb1⟩
        rw [P.out]
        go_wp2
        go_ret
        exact ⟨rfl, hb1⟩
    · have hb : (((l.length : Nat) : Int) != ((c.length : Nat) : Int)) = true := by rw [bne_iff_ne]; omega
      rw [arA_long hl]
      clear hl
      go_enter Try.func57, Try.ntmps57
      go_wp2_with fail
      refine (checked_any _ _ _ _ hv).mono ?_
      rintro e w' ⟨rfl, rfl⟩
      rw [A.out]
      go_wp2
      go_ret
      exact ⟨rfl, Below.refl _ _⟩
  · rw [if_neg h0]
    have hb : (askE c n != 0) = true := by rw [bne_iff_ne]; exact h0
    clear h0
    go_enter Try.func57, Try.ntmps57
    go_wp2_with fail
    refine (checked_any _ _ _ _ hv).mono ?_
    rintro e w' ⟨rfl, rfl⟩
    go_wp2
    go_ret
    exact ⟨rfl, Below.refl _ _⟩

theorem awE_ok {c : List Int} {n : Int} {l : List Rat2} (h : awE c n l = 0) : Cvl c ∧ (0 ≤ n ∧ n ≤ 8000) ∧ arA c l = true := by
  unfold awE at h
  split at h
  · rename_i h1
    obtain ⟨h2, h3⟩ := askE_ok h1
    split at h
    · exact ⟨h2, h3, by assumption⟩
    · omega
  · rename_i h1
    exact absurd h h1

set_option maxHeartbeats 1000000 in
theorem tShares_any (v x : Value) (c : List Int) (l : List Rat2) (n : Int) (w : World) (hv : IntsAt w v c) (hx : RatsAt w x l) :
    Calls Try.prog 21 #[v, .int .i64 n, x] w fun e w' => e = .returned (.tuple #[.bool (sV c n l), .int .i64 (awE c n l)]) ∧ Below w.heap.size w w' := by
  unfold sV
  by_cases h0 : awE c n l = 0
  · obtain ⟨hc, hn, ha⟩ := awE_ok h0
    rw [h0]
    have A := Lib.hid h0
    clear h0
    go_enter Try.func21, Try.ntmps21
    go_wp2_with fail
    refine (awarded_any _ _ _ _ _ _ hv hx).mono ?_
    rintro e w1 ⟨rfl, hb1⟩
    rw [A.out]
    go_wp2_with fail
    refine (shares_any _ _ _ _ _ _ (hv.below hb1) (hx.below hb1) hc ha hn).mono ?_
    rintro e w2 ⟨rfl, hb2⟩
    go_wp2
    go_ret2
    exact ⟨by simp, below_trans hb1 hb2⟩
  · have hb : (awE c n l != 0) = true := by rw [bne_iff_ne]; exact h0
    rw [decide_eq_false h0]
    clear h0
    go_enter Try.func21, Try.ntmps21
    go_wp2_with fail
    refine (awarded_any _ _ _ _ _ _ hv hx).mono ?_
    rintro e w1 ⟨rfl, hb1⟩
    go_wp2
    go_ret2
    exact ⟨rfl, hb1⟩

set_option maxHeartbeats 1000000 in
theorem rShares_any (v x : Value) (c : List Int) (l : List Rat2) (n : Int) (w : World) (hv : IntsAt w v c) (hx : RatsAt w x l) :
    Calls Try.prog 22 #[v, .int .i64 n, x] w fun e w' => e = .returned (.tuple #[.bool (sV c n l), .int .i64 (awE c n l)]) ∧ Below w.heap.size w w' := by
  unfold sV awE
  by_cases h0 : askE c n = 0
  · obtain ⟨hc, hn⟩ := askE_ok h0
    rw [if_pos h0]
    have A := Lib.hid h0
    clear h0
    cases ha : arA c l with
    | true =>
      have R := Lib.hid ha
      go_enter Try.func22, Try.ntmps22
      go_wp2_with fail
      refine (rasked_any _ _ _ _ hv).mono ?_
      rintro e w' ⟨rfl, rfl⟩
      rw [A.out]
      go_wp2_with fail
      refine (rAreAwards_any _ _ _ _ _ hv hx).mono ?_
      rintro e w' ⟨rfl, rfl⟩
      rw [R.out]
      go_wp2_with fail
      refine (rshares_any _ _ _ _ _ _ hv hx hc R.out hn).mono ?_
      rintro e w2 ⟨rfl, hb2⟩
      go_wp2
      go_ret2
      exact ⟨by simp, hb2⟩
    | false =>
      have R := Lib.hid ha
      clear ha
      go_enter Try.func22, Try.ntmps22
      go_wp2_with fail
      refine (rasked_any _ _ _ _ hv).mono ?_
      rintro e w' ⟨rfl, rfl⟩
      rw [A.out]
      go_wp2_with fail
      refine (rAreAwards_any _ _ _ _ _ hv hx).mono ?_
      rintro e w' ⟨rfl, rfl⟩
      rw [R.out]
      go_wp2
      go_ret2
      exact ⟨by simp, Below.refl _ _⟩
  · have hb : (askE c n != 0) = true := by rw [bne_iff_ne]; exact h0
    have hb2 : (askE c n == 0) = false := by rw [beq_eq_false_iff_ne]; exact h0
    rw [if_neg h0, decide_eq_false h0]
    clear h0
    go_enter Try.func22, Try.ntmps22
    go_wp2_with fail
    refine (rasked_any _ _ _ _ hv).mono ?_
    rintro e w' ⟨rfl, rfl⟩
    go_wp2
    go_ret2
    exact ⟨rfl, Below.refl _ _⟩

end Go.Proofs.Ytaakefjblldccaa
