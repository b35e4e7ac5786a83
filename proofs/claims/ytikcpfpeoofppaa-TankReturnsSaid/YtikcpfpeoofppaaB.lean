/- Contracts: the measure of tanks (of both), and whether two lists of deeds are the same. -/
import Derived.Test.YtikcpfpeoofppaaA
namespace Go.Proofs.Ytikcpfpeoofppaa
open Go.RowKit

/-- The greatest common divisor of a list. -/
def gcl (t : List Int) : Nat := t.foldl (fun g n => Nat.gcd g n.toNat) 0

theorem gcl_snoc {t : List Int} {k : Nat} (hk : k < t.length) : gcl (t.take (k + 1)) = Nat.gcd (gcl (t.take k)) (t.getD k 0).toNat := by
  rw [List.take_succ_eq_append_getElem hk, gcl, List.foldl_append, List.getD_eq_getElem?_getD, List.getElem?_eq_getElem hk]
  rfl

theorem foldl_gcd_dvd : ∀ (t : List Int) (g : Nat), (t.foldl (fun g n => Nat.gcd g n.toNat) g) ∣ g ∧ ∀ n ∈ t, (t.foldl (fun g n => Nat.gcd g n.toNat) g) ∣ n.toNat
  | [], g => ⟨Nat.dvd_refl _, fun n h => by simp at h⟩
  | x :: t, g => by
    obtain ⟨h1, h2⟩ := foldl_gcd_dvd t (Nat.gcd g x.toNat)
    refine ⟨Nat.dvd_trans h1 (Nat.gcd_dvd_left _ _), fun n hn => ?_⟩
    rcases List.mem_cons.1 hn with rfl | hn
    · exact Nat.dvd_trans h1 (Nat.gcd_dvd_right _ _)
    · exact h2 n hn

theorem foldl_gcd_greatest : ∀ (t : List Int) (g d : Nat), d ∣ g → (∀ n ∈ t, d ∣ n.toNat) → d ∣ (t.foldl (fun g n => Nat.gcd g n.toNat) g)
  | [], g, d, h, _ => h
  | x :: t, g, d, h, k => foldl_gcd_greatest t _ d (Nat.dvd_gcd h (k x (by simp))) (fun n hn => k n (by simp [hn]))

theorem gcl_dvd (t : List Int) : ∀ n ∈ t, gcl t ∣ n.toNat := (foldl_gcd_dvd t 0).2
theorem gcl_greatest {t : List Int} {d : Nat} (h : ∀ n ∈ t, d ∣ n.toNat) : d ∣ gcl t := foldl_gcd_greatest t 0 d (Nat.dvd_zero _) h

theorem Tvl.gcl_pos {t : List Int} (h : Tvl t) : 1 ≤ gcl t ∧ gcl t ≤ 12 := by
  have hlo := h.lo
  match t, h with
  | x :: t, h =>
    have hx := h.holds x (by simp)
    have hd := gcl_dvd (x :: t) x (by simp)
    have := Nat.le_of_dvd (by omega) hd
    have h0 : gcl (x :: t) ≠ 0 := fun e => by
      rw [e] at hd
      have := Nat.eq_zero_of_zero_dvd hd
      omega
    omega

theorem mem_getD {t : List Int} {k : Nat} (hk : k < t.length) : t.getD k 0 ∈ t := by
  rw [List.getD_eq_getElem?_getD, List.getElem?_eq_getElem hk]; simp

set_option maxHeartbeats 400000 in
theorem measure_any (v : Value) (t : List Int) (w : World) (hv : IntsAt w v t) (ht : Tvl t) :
    Calls Try.prog 54 #[v] w fun e w' => e = .returned (.int .i64 (gcl t)) ∧ Below w.heap.size w w' := by
  have hlo := ht.lo
  have hhi := ht.hi
  obtain ⟨b, off, cap, rfl, hc⟩ := ints_cell hv (by omega)
  clear hv
  go_enter Try.func54, Try.ntmps54
  go_wp2
  go_loopw [3, 8] (fun g i wr => ∃ k : Nat, k ≤ t.length ∧ i = .int .i64 k ∧ g = .int .i64 (gcl (t.take k)) ∧ Below w.heap.size w wr) (fun _ i _ => t.length - (intOf i).toNat)
  case atStart => exact ⟨0, Nat.zero_le _, rfl, rfl, Below.refl _ _⟩
  case round =>
    obtain ⟨k, hk, rfl, rfl, hbel⟩ := hrel
    by_cases hlt : k < t.length
    · have hcell := keep_cell hbel (hc k hlt)
      have hx := ht.holds _ (mem_getD hlt)
      have G := Lib.hid (gcl_snoc hlt)
      generalize gcl (t.take k) = g0 at *
      generalize t.getD k 0 = x0 at *
      obtain ⟨n0, rfl⟩ := Int.eq_ofNat_of_zero_le (show 0 ≤ x0 by omega)
      rw [Int.toNat_natCast] at G
      clear hc
      go_wp2
      go_loopw [3, 5] (fun g n wr2 => ∃ a c : Nat, g = .int .i64 a ∧ n = .int .i64 c ∧ c ≤ 12 ∧ Hid (Nat.gcd a c = Nat.gcd g0 n0) ∧ Below w.heap.size w wr2) (fun _ n _ => (intOf n).toNat)
      case atStart => exact ⟨g0, n0, rfl, rfl, by omega, Lib.hid rfl, hbel⟩
      case round =>
        obtain ⟨a, c, rfl, rfl, hc12, E, hb2⟩ := hrel
        by_cases h0 : 0 < c
        · have hml := Nat.mod_lt a h0
          have E2 : Hid (Nat.gcd c (a % c) = Nat.gcd g0 n0) := Lib.hid (by
            rw [← E.out, Nat.gcd_comm c, ← Nat.gcd_rec, Nat.gcd_comm])
          have hmc : ((a : Int) % (c : Int)) = ((a % c : Nat) : Int) := (Int.natCast_emod _ _).symm
          go_wp2
          refine wp_region_quiet_lit (by kernel_rfl) (by kernel_rfl) ?_
          repeat (any_goals (first | go_big_quiet_step (fail) | quiet_step (fail)))
          all_goals (refine wpQuiet_nil ?_; intro _ hw'; obtain ⟨nq, hw''⟩ := hw'; subst hw'')
          all_goals go_wp2
          go_roundw
          case rel => exact ⟨c, a % c, rfl, by go_num, by omega, E2, below_drewN hb2 _⟩
          case measure => simp [intOf]; omega
        · have hc0 : c = 0 := by omega
          subst hc0
          have E3 : Hid (a = gcl (t.take (k + 1))) := Lib.hid (by rw [G.out, ← E.out, Nat.gcd_zero_right])
          go_wp2
          go_roundw
          case rel => exact ⟨k + 1, by omega, by go_num, by rw [← E3.out], hb2⟩
          case measure => simp [intOf]; omega
    · have e : k = t.length := by omega
      subst e
      go_wp2
      go_ret
      exact ⟨ret_i (by rw [List.take_length]), hbel⟩

/-- All tanks are divided by n. -/
def dvA (t : List Int) (n : Nat) : Bool := t.all fun x => x % (n : Int) == 0

theorem dvA_iff {t : List Int} (ht : Tvl t) (n : Nat) : dvA t n = true ↔ n ∣ gcl t := by
  unfold dvA
  rw [List.all_eq_true]
  constructor
  · intro h
    refine gcl_greatest fun x hx => ?_
    have h1 := h x hx
    have h2 := ht.holds x hx
    rw [beq_iff_eq] at h1
    have h3 := Int.dvd_of_emod_eq_zero h1
    obtain ⟨y, rfl⟩ := Int.eq_ofNat_of_zero_le (show 0 ≤ x by omega)
    exact Int.ofNat_dvd.1 h3
  · intro h x hx
    have h2 := ht.holds x hx
    have h1 := Nat.dvd_trans h (gcl_dvd t x hx)
    obtain ⟨y, rfl⟩ := Int.eq_ofNat_of_zero_le (show 0 ≤ x by omega)
    rw [beq_iff_eq]
    exact Int.emod_eq_zero_of_dvd (Int.ofNat_dvd.2 h1)

theorem all_snoc (p : Int → Bool) {t : List Int} {k : Nat} (hk : k < t.length) : (t.take (k + 1)).all p = ((t.take k).all p && p (t.getD k 0)) := by
  rw [List.take_succ_eq_append_getElem hk, List.all_append, List.getD_eq_getElem?_getD, List.getElem?_eq_getElem hk]
  simp

/-- B is the greatest below n that divides all, or 1. -/
structure Best (t : List Int) (n B : Nat) : Prop where
  one : 1 ≤ B
  dvd : B ∣ gcl t
  top : ∀ d, d < n → d ∣ gcl t → d ≤ B

theorem Best.is {t : List Int} (ht : Tvl t) {B : Nat} (h : Best t 13 B) : B = gcl t := by
  have h1 := ht.gcl_pos
  have h2 := Nat.le_of_dvd (by omega) h.dvd
  have h3 := h.top (gcl t) (by omega) (Nat.dvd_refl _)
  omega

set_option maxHeartbeats 1000000 in
theorem rmeasure_any (v : Value) (t : List Int) (w : World) (hv : IntsAt w v t) (ht : Tvl t) :
    Calls Try.prog 57 #[v] w fun e w' => e = .returned (.int .i64 (gcl t)) ∧ w = w' := by
  have hlo := ht.lo
  have hhi := ht.hi
  obtain ⟨b, off, cap, rfl, hc⟩ := ints_cell hv (by omega)
  clear hv
  go_enter Try.func57, Try.ntmps57
  go_wp2
  go_loop [3, 4] (fun bst i => ∃ n B : Nat, 2 ≤ n ∧ n ≤ 13 ∧ i = .int .i64 n ∧ bst = .int .i64 B ∧ Hid (Best t n B)) (fun _ i => 13 - (intOf i).toNat)
  case atStart => exact ⟨2, 1, by omega, by omega, rfl, rfl, Lib.hid ⟨by omega, Nat.one_dvd _, fun d hd _ => by omega⟩⟩
  case round =>
    obtain ⟨n, B, hn2, hn13, rfl, rfl, H⟩ := hrel
    by_cases hlt : n ≤ 12
    · go_wp2
      go_loop [5, 6] (fun al i => ∃ k : Nat, k ≤ t.length ∧ i = .int .i64 k ∧ al = .bool ((t.take k).all fun x => x % (n : Int) == 0)) (fun _ i => t.length - (intOf i).toNat)
      case atStart => exact ⟨0, Nat.zero_le _, rfl, rfl⟩
      case round =>
        obtain ⟨k, hk, rfl, rfl⟩ := hrel
        by_cases hlk : k < t.length
        · have hcell := hc k hlk
          have hx := ht.holds _ (mem_getD hlk)
          have E := Lib.hid (all_snoc (fun x => x % (n : Int) == 0) hlk)
          generalize t.getD k 0 = x at *
          clear hc
          have hdv : x.tmod (n : Int) = x % (n : Int) := Int.tmod_eq_emod_of_nonneg (by omega)
          cases ha : (t.take k).all fun x => x % (n : Int) == 0 with
          | false =>
            have A := Lib.hid ha
            clear ha
            go_wp2
            go_round
            case rel => exact ⟨k + 1, by omega, by go_num, by rw [E.out, A.out]; rfl⟩
            case measure => simp [intOf]; omega
          | true =>
            have A := Lib.hid ha
            clear ha
            go_wp2
            go_round
            case rel => exact ⟨k + 1, by omega, by go_num, by rw [E.out, A.out]; rfl⟩
            case measure => simp [intOf]; omega
        · have e : k = t.length := by omega
          subst e
          have D := Lib.hid (dvA_iff ht n)
          have L : Hid (((t.take t.length).all fun x => x % (n : Int) == 0) = dvA t n) := Lib.hid (by rw [List.take_length]; rfl)
          rw [L.out]
          cases hd : dvA t n with
          | true =>
            have H2 : Hid (Best t (n + 1) n) := Lib.hid ⟨by omega, D.out.1 hd, fun d h1 h2 => by omega⟩
            clear hd
            go_wp2
            go_round
            case rel => exact ⟨n + 1, n, by omega, by omega, by go_num, rfl, H2⟩
            case measure => simp [intOf]; omega
          | false =>
            have H2 : Hid (Best t (n + 1) B) := Lib.hid ⟨H.out.one, H.out.dvd, fun d h1 h2 => by
              rcases Nat.lt_succ_iff_lt_or_eq.1 h1 with h | rfl
              · exact H.out.top d h h2
              · rw [D.out.2 h2] at hd; cases hd⟩
            clear hd
            go_wp2
            go_round
            case rel => exact ⟨n + 1, B, by omega, by omega, by go_num, rfl, H2⟩
            case measure => simp [intOf]; omega
    · have e : n = 13 := by omega
      subst e
      go_wp2
      go_ret
      exact ⟨ret_i (by rw [H.out.is ht]), rfl⟩

end Go.Proofs.Ytikcpfpeoofppaa
