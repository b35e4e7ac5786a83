/- Contracts: the first error of awards; Shares of both. -/
import Derived.Test.YtaakefjblldccaaJ
namespace Go.Proofs.Ytaakefjblldccaa
open Go.RowKit

/-- The first error of claims, an estate and awards. -/
def awE (c : List Int) (n : Int) (l : List Rat2) : Int := if askE c n = 0 then (if arA c l then 0 else 2) else askE c n
def sV (c : List Int) (n : Int) (l : List Rat2) : Bool := decide (awE c n l = 0) && shB c n l

theorem askE_ok {c : List Int} {n : Int} (h : askE c n = 0) : Cvl c ∧ 0 ≤ n ∧ n ≤ 8000 := by
  unfold askE at h
  split at h
  · rename_i h1
    split at h
    · rename_i h2
      have hc := (cvl_iff c).1 h1
      have hb := (betw_iff _ _ _).1 h2
      have ht := tot_bd hc c.length (Nat.le_refl _)
      rw [List.take_length] at ht
      have := hc.hi
      exact ⟨hc, by omega, by omega⟩
    · omega
  · omega

set_option maxHeartbeats 1000000 in
theorem awarded_any (v x : Value) (c : List Int) (l : List Rat2) (n : Int) (w : World) (hv : IntsAt w v c) (hx : RatsAt w x l) :
    Calls Try.prog 57 #[v, .int .i64 n, x] w fun e w' => e = .returned (.int .i64 (awE c n l)) ∧ Below w.heap.size w w' := by
  obtain ⟨ca, ccap, rfl, hcr⟩ := id hv
  obtain ⟨a, cap, rfl, hlr⟩ := id hx
  clear hcr hlr
  unfold awE
  by_cases h0 : askE c n = 0
  · rw [if_pos h0]
    have A := Lib.hid h0
    clear h0
    by_cases hl : l.length = c.length
    · have hb : (((l.length : Nat) : Int) != ((c.length : Nat) : Int)) = false := by rw [bne_eq_false_iff_eq]; omega
      have R : Hid (arA c l = !l.any noawd) := Lib.hid (by unfold arA; rw [beq_iff_eq.2 hl]; rfl)
      rw [R.out]
      clear hl
      cases hp : l.any noawd with
      | true =>
        have P := Lib.hid hp
        clear hp
        go_enter Try.func57, Try.ntmps57
        go_wp2_with fail
        refine (checked_any _ _ _ _ hv).mono ?_
        rintro e w' ⟨rfl, rfl⟩
        rw [A.out]
        go_wp2_with fail
        refine (contRat_any _ _ _ hx).mono ?_
        rintro e w1 ⟨rfl, hb1⟩
        rw [P.out]
        go_wp2
        go_ret
        exact ⟨rfl, hb1⟩
      | false =>
        have P := Lib.hid hp
        clear hp
        go_enter Try.func57, Try.ntmps57
        go_wp2_with fail
        refine (checked_any _ _ _ _ hv).mono ?_
        rintro e w' ⟨rfl, rfl⟩
        rw [A.out]
        go_wp2_with fail
        refine (contRat_any _ _ _ hx).mono ?_
        rintro e w1 ⟨rfl, hb1⟩
        rw [P.out]
        go_wp2
        go_ret
        exact ⟨rfl, hb1⟩
    · have hb : (((l.length : Nat) : Int) != ((c.length : Nat) : Int)) = true := by rw [bne_iff_ne]; omega
      rw [arA_long hl]
      clear hl
      go_enter Try.func57, Try.ntmps57
      go_wp2_with fail
      refine (checked_any _ _ _ _ hv).mono ?_
      rintro e w' ⟨rfl, rfl⟩
      rw [A.out]
      go_wp2
      go_ret
      exact ⟨rfl, Below.refl _ _⟩
  · rw [if_neg h0]
    have hb : (askE c n != 0) = true := by rw [bne_iff_ne]; exact h0
    clear h0
    go_enter Try.func57, Try.ntmps57
    go_wp2_with fail
    refine (checked_any _ _ _ _ hv).mono ?_
    rintro e w' ⟨rfl, rfl⟩
    go_wp2
    go_ret
    exact ⟨rfl, Below.refl _ _⟩

theorem awE_ok {c : List Int} {n : Int} {l : List Rat2} (h : awE c n l = 0) : Cvl c ∧ (0 ≤ n ∧ n ≤ 8000) ∧ arA c l = true := by
  unfold awE at h
  split at h
  · rename_i h1
    obtain ⟨h2, h3⟩ := askE_ok h1
    split at h
    · exact ⟨h2, h3, by assumption⟩
    · omega
  · rename_i h1
    exact absurd h h1

set_option maxHeartbeats 1000000 in
theorem tShares_any (v x : Value) (c : List Int) (l : List Rat2) (n : Int) (w : World) (hv : IntsAt w v c) (hx : RatsAt w x l) :
    Calls Try.prog 21 #[v, .int .i64 n, x] w fun e w' => e = .returned (.tuple #[.bool (sV c n l), .int .i64 (awE c n l)]) ∧ Below w.heap.size w w' := by
  unfold sV
  by_cases h0 : awE c n l = 0
  · obtain ⟨hc, hn, ha⟩ := awE_ok h0
    rw [h0]
    have A := Lib.hid h0
    clear h0
    go_enter Try.func21, Try.ntmps21
    go_wp2_with fail
    refine (awarded_any _ _ _ _ _ _ hv hx).mono ?_
    rintro e w1 ⟨rfl, hb1⟩
    rw [A.out]
    go_wp2_with fail
    refine (shares_any _ _ _ _ _ _ (hv.below hb1) (hx.below hb1) hc ha hn).mono ?_
    rintro e w2 ⟨rfl, hb2⟩
    go_wp2
    go_ret2
    exact ⟨by simp, below_trans hb1 hb2⟩
  · have hb : (awE c n l != 0) = true := by rw [bne_iff_ne]; exact h0
    rw [decide_eq_false h0]
    clear h0
    go_enter Try.func21, Try.ntmps21
    go_wp2_with fail
    refine (awarded_any _ _ _ _ _ _ hv hx).mono ?_
    rintro e w1 ⟨rfl, hb1⟩
    go_wp2
    go_ret2
    exact ⟨rfl, hb1⟩

set_option maxHeartbeats 1000000 in
theorem rShares_any (v x : Value) (c : List Int) (l : List Rat2) (n : Int) (w : World) (hv : IntsAt w v c) (hx : RatsAt w x l) :
    Calls Try.prog 22 #[v, .int .i64 n, x] w fun e w' => e = .returned (.tuple #[.bool (sV c n l), .int .i64 (awE c n l)]) ∧ Below w.heap.size w w' := by
  unfold sV awE
  by_cases h0 : askE c n = 0
  · obtain ⟨hc, hn⟩ := askE_ok h0
    rw [if_pos h0]
    have A := Lib.hid h0
    clear h0
    cases ha : arA c l with
    | true =>
      have R := Lib.hid ha
      go_enter Try.func22, Try.ntmps22
      go_wp2_with fail
      refine (rasked_any _ _ _ _ hv).mono ?_
      rintro e w' ⟨rfl, rfl⟩
      rw [A.out]
      go_wp2_with fail
      refine (rAreAwards_any _ _ _ _ _ hv hx).mono ?_
      rintro e w' ⟨rfl, rfl⟩
      rw [R.out]
      go_wp2_with fail
      refine (rshares_any _ _ _ _ _ _ hv hx hc R.out hn).mono ?_
      rintro e w2 ⟨rfl, hb2⟩
      go_wp2
      go_ret2
      exact ⟨by simp, hb2⟩
    | false =>
      have R := Lib.hid ha
      clear ha
      go_enter Try.func22, Try.ntmps22
      go_wp2_with fail
      refine (rasked_any _ _ _ _ hv).mono ?_
      rintro e w' ⟨rfl, rfl⟩
      rw [A.out]
      go_wp2_with fail
      refine (rAreAwards_any _ _ _ _ _ hv hx).mono ?_
      rintro e w' ⟨rfl, rfl⟩
      rw [R.out]
      go_wp2
      go_ret2
      exact ⟨by simp, Below.refl _ _⟩
  · have hb : (askE c n != 0) = true := by rw [bne_iff_ne]; exact h0
    have hb2 : (askE c n == 0) = false := by rw [beq_eq_false_iff_ne]; exact h0
    rw [if_neg h0, decide_eq_false h0]
    clear h0
    go_enter Try.func22, Try.ntmps22
    go_wp2_with fail
    refine (rasked_any _ _ _ _ hv).mono ?_
    rintro e w' ⟨rfl, rfl⟩
    go_wp2
    go_ret2
    exact ⟨rfl, Below.refl _ _⟩

end Go.Proofs.Ytaakefjblldccaa
