/- The law TankMeasures. -/
import Derived.Test.YtikcpfpeoofppaaLawE
import Derived.Test.YtikcpfpeoofppaaNn
namespace Go.Proofs.Ytikcpfpeoofppaa
open Go.RowKit Go.Shelf

/-- What deeds from levels that the measure divides lead to. -/
theorem fold_div {t : List Int} (ht : Tvl t) : ∀ (ds : List Deed) (l : List Int), Lev t l → DivL (gcl t : Int) l → (∀ d ∈ ds, IsD t.length d) → Lev t (ds.foldl (doneL t) l) ∧ DivL (gcl t : Int) (ds.foldl (doneL t) l)
  | [], l, hl, hd, _ => ⟨hl, hd⟩
  | d :: ds, l, hl, hd, h => fold_div ht ds _ (doneL_lev ht hl (h d (by simp))) ((DivL.tanks ht).done hd hl (h d (by simp))) (fun x hx => h x (by simp [hx]))

/-- An amount can be had just if the measure divides it and the tank holds it. -/
theorem way_iff {t : List Int} {i n : Int} (ht : Tvl t) (hi : 0 ≤ i ∧ i < t.length) (hn : 0 ≤ n) : (way t (zerosL t) (amtG i n)).isSome = (n % (gcl t : Int) == 0 && decide (n ≤ t.getD i.toNat 0)) := by
  obtain ⟨k, rfl⟩ := Int.eq_ofNat_of_zero_le hi.1
  obtain ⟨m, rfl⟩ := Int.eq_ofNat_of_zero_le hn
  have hk : k < t.length := by omega
  rw [Int.toNat_natCast, Bool.eq_iff_iff, Bool.and_eq_true, beq_iff_eq, decide_eq_true_iff]
  constructor
  · intro h
    obtain ⟨ds, hds⟩ := Option.isSome_iff_exists.1 h
    obtain ⟨h1, h2⟩ := way_some ht (zeros_lev ht) hds
    obtain ⟨h3, h4⟩ := fold_div ht ds (zerosL t) (zeros_lev ht) (fun j => by rw [zeros_getD]; simp) h2
    have h5 : (ds.foldl (doneL t) (zerosL t)).getD k 0 = (m : Int) := by
      unfold amtG at h1
      rw [Int.toNat_natCast, beq_iff_eq] at h1
      exact h1
    have h6 := h4 k
    have h7 := (h3.2 k hk).2
    rw [h5] at h6 h7
    exact ⟨h6, h7⟩
  · rintro ⟨h1, h2⟩
    obtain ⟨qs, k1, k2, k3⟩ := can_have (i := k) (n := m) ht hk h2 (Int.ofNat_dvd.1 (Int.dvd_of_emod_eq_zero h1))
    cases hn : way t (zerosL t) (amtG k m) with
    | some _ => rfl
    | none =>
      have h3 := way_none ht (zeros_lev ht) hn k1
      have h4 : (qs.foldl (doneL t) (zerosL t)).getD k 0 = (m : Int) := k3
      unfold amtG at h3
      rw [Int.toNat_natCast, h4] at h3
      simp at h3

theorem canE_eq (t : List Int) (i n : Int) : canE t i n = amtE t i n := by
  unfold canE dE
  by_cases h : amtE t i n = 0
  · rw [if_pos h, h]
    cases (way t (zerosL t) (amtG i n)).isSome <;> rfl
  · rw [if_neg h]
    have : amtE t i n ≠ 5 := by
      unfold amtE
      split
      · split <;> decide
      · decide
    rw [if_neg this]
def rcanV (t : List Int) (i n : Int) : Bool := if amtE t i n = 0 then (n % (gcl t : Int) == 0 && decide (n ≤ t.getD i.toNat 0)) else false
theorem canV_eq (t : List Int) (i n : Int) : canV t i n = rcanV t i n := by
  unfold rcanV
  by_cases h : amtE t i n = 0
  · have hz := amtE_zero h
    rw [if_pos h, ← way_iff hz.1 ⟨hz.2.1, hz.2.2.1⟩ hz.2.2.2.1]
    unfold canV dE
    rw [if_pos h]
    cases (way t (zerosL t) (amtG i n)).isSome <;> rfl
  · rw [if_neg h]
    unfold canV dE
    rw [if_neg h]
    split
    · rfl
    · exact beq_eq_false_iff_ne.2 h

set_option maxHeartbeats 1000000 in
theorem rMeasure_any (v : Value) (t : List Int) (w : World) (hv : IntsAt w v t) :
    Calls Try.prog 27 #[v] w fun e w' => e = .returned (.tuple #[.int .i64 (mV t), .int .i64 (mE t)]) ∧ w = w' := by
  unfold mV mE
  cases hy : tvl t with
  | false =>
    have Y := Lib.hid hy
    clear hy
    go_enter Try.func27, Try.ntmps27
    go_wp2_with fail
    refine (rValid_any _ _ _ hv).mono ?_
    rintro e w' ⟨rfl, rfl⟩
    rw [Y.out]
    go_wp2
    go_ret2
    exact ⟨rfl, rfl⟩
  | true =>
    have ht := (tvl_iff t).1 hy
    have Y := Lib.hid hy
    clear hy
    go_enter Try.func27, Try.ntmps27
    go_wp2_with fail
    refine (rValid_any _ _ _ hv).mono ?_
    rintro e w' ⟨rfl, rfl⟩
    rw [Y.out]
    go_wp2_with fail
    refine (rmeasure_any _ _ _ hv ht).mono ?_
    rintro e w1 ⟨rfl, rfl⟩
    go_wp2
    go_ret2
    exact ⟨rfl, rfl⟩

set_option maxHeartbeats 1000000 in
theorem rAmounted_any (v : Value) (t : List Int) (i n : Int) (w : World) (hv : IntsAt w v t) :
    Calls Try.prog 62 #[v, .int .i64 i, .int .i64 n] w fun e w' => e = .returned (.int .i64 (amtE t i n)) ∧ w = w' := by
  have V := Lib.hid (rValid_any v t w hv)
  obtain ⟨a, cap, rfl, hl, _⟩ := hv
  have hw : IntKind.i64.wrap ((t.length : Int) - 1) = (t.length : Int) - 1 := IntWalk.i64_in _ (by omega)
  cases h1 : tvl t with
  | false =>
    rw [h1] at V
    have A := Lib.hid (show amtE t i n = 40 by unfold amtE; rw [h1]; rfl)
    have B1 := Lib.hid (rfl : (0 : Nat) = 0)
    have B2 := B1
    generalize amtE t i n = ae at *
    clear h1
    go_enter Try.func62, Try.ntmps62
    go_wp2_with (first | (go_at_call 39; refine V.out.mono ?_; rintro e w' ⟨rfl, rfl⟩) | (go_at_call 56; refine (within_any _ _ _ _).mono ?_; rintro e w' ⟨rfl, rfl⟩; first | rw [B1.out] | rw [B2.out]))
    go_ret
    exact ⟨ret_i A.out.symm, rfl⟩
  | true =>
    rw [h1] at V
    cases h2 : betw 0 i ((t.length : Int) - 1) with
    | false =>
      have B1 := Lib.hid h2
      have B2 := B1
      have A := Lib.hid (show amtE t i n = 2 by unfold amtE; rw [h1, h2]; rfl)
      generalize amtE t i n = ae at *
      clear h1 h2
      go_enter Try.func62, Try.ntmps62
      go_wp2_with (first | (go_at_call 39; refine V.out.mono ?_; rintro e w' ⟨rfl, rfl⟩) | (go_at_call 56; refine (within_any _ _ _ _).mono ?_; rintro e w' ⟨rfl, rfl⟩; first | rw [B1.out] | rw [B2.out]))
      go_ret
      exact ⟨ret_i A.out.symm, rfl⟩
    | true =>
      have B1 := Lib.hid h2
      cases h3 : betw 0 n 12 with
      | false =>
        have B2 := Lib.hid h3
        have A := Lib.hid (show amtE t i n = 2 by unfold amtE; rw [h1, h2, h3]; rfl)
        generalize amtE t i n = ae at *
        clear h1 h2 h3
        go_enter Try.func62, Try.ntmps62
        go_wp2_with (first | (go_at_call 39; refine V.out.mono ?_; rintro e w' ⟨rfl, rfl⟩) | (go_at_call 56; refine (within_any _ _ _ _).mono ?_; rintro e w' ⟨rfl, rfl⟩; first | rw [B1.out] | rw [B2.out]))
        go_ret
        exact ⟨ret_i A.out.symm, rfl⟩
      | true =>
        have B2 := Lib.hid h3
        have A := Lib.hid (show amtE t i n = 0 by unfold amtE; rw [h1, h2, h3]; rfl)
        generalize amtE t i n = ae at *
        clear h1 h2 h3
        go_enter Try.func62, Try.ntmps62
        go_wp2_with (first | (go_at_call 39; refine V.out.mono ?_; rintro e w' ⟨rfl, rfl⟩) | (go_at_call 56; refine (within_any _ _ _ _).mono ?_; rintro e w' ⟨rfl, rfl⟩; first | rw [B1.out] | rw [B2.out]))
        go_ret
        exact ⟨ret_i A.out.symm, rfl⟩

set_option maxHeartbeats 1000000 in
theorem rCan_any (v : Value) (t : List Int) (i n : Int) (w : World) (hv : IntsAt w v t) :
    Calls Try.prog 29 #[v, .int .i64 i, .int .i64 n] w fun e w' => e = .returned (.tuple #[.bool (rcanV t i n), .int .i64 (amtE t i n)]) ∧ w = w' := by
  have A := Lib.hid (rAmounted_any v t i n w hv)
  by_cases hz : amtE t i n = 0
  · obtain ⟨ht, hi0, hi1, hn0, hn1⟩ := amtE_zero hz
    have hR : rcanV t i n = (n % (gcl t : Int) == 0 && decide (n ≤ t.getD i.toNat 0)) := by unfold rcanV; rw [if_pos hz]
    rw [hz] at A ⊢
    have MM := Lib.hid (rmeasure_any v t w hv ht)
    have hg := ht.gcl_pos
    have hlo := ht.lo
    obtain ⟨k, rfl⟩ := Int.eq_ofNat_of_zero_le hi0
    rw [Int.toNat_natCast] at hR
    obtain ⟨b, off, cap, rfl, hc⟩ := ints_cell hv (by omega)
    have hcell := hc k (by omega)
    have hdv : n.tmod ((gcl t : Nat) : Int) = n % ((gcl t : Nat) : Int) := Int.tmod_eq_emod_of_nonneg hn0
    have HR := Lib.hid hR
    clear hc hv hz hR ht
    generalize rcanV t k n = rc at *
    generalize t.getD k 0 = x at *
    generalize gcl t = gg at *
    have hg0 : ¬ ((gg : Int) = 0) := by omega
    by_cases h1 : n % (gg : Int) = 0
    · rw [h1] at hdv
      by_cases h2 : n ≤ x
      · have R := Lib.hid (show rc = true by rw [HR.out, h1, decide_eq_true h2]; rfl)
        go_enter Try.func29, Try.ntmps29
        go_wp2_with (first | (go_at_call 62; refine A.out.mono ?_; rintro e w' ⟨rfl, rfl⟩) | (go_at_call 57; refine MM.out.mono ?_; rintro e w' ⟨rfl, rfl⟩))
        go_ret2
        exact ⟨by rw [R.out]; rfl, rfl⟩
      · have R := Lib.hid (show rc = false by rw [HR.out, h1, decide_eq_false h2]; rfl)
        go_enter Try.func29, Try.ntmps29
        go_wp2_with (first | (go_at_call 62; refine A.out.mono ?_; rintro e w' ⟨rfl, rfl⟩) | (go_at_call 57; refine MM.out.mono ?_; rintro e w' ⟨rfl, rfl⟩))
        refine bodyPost_ret (v := .tuple #[.bool (decide (n ≤ x)), .int .i64 0]) (by simp [results, Try.results29, go_sem]) rfl ⟨by rw [R.out, decide_eq_false (show ¬ n ≤ x by omega)], rfl⟩
    · have hb := beq_eq_false_iff_ne.2 h1
      have R := Lib.hid (show rc = false by rw [HR.out, hb]; rfl)
      go_enter Try.func29, Try.ntmps29
      go_wp2_with (first | (go_at_call 62; refine A.out.mono ?_; rintro e w' ⟨rfl, rfl⟩) | (go_at_call 57; refine MM.out.mono ?_; rintro e w' ⟨rfl, rfl⟩))
      go_ret2
      exact ⟨by rw [R.out]; rfl, rfl⟩
  · have R := Lib.hid (show rcanV t i n = false by unfold rcanV; rw [if_neg hz])
    generalize rcanV t i n = rc at *
    generalize amtE t i n = ae at *
    have hb : (ae != 0) = true := bne_iff_ne.2 hz
    obtain ⟨_, _, rfl, _⟩ := hv
    go_enter Try.func29, Try.ntmps29
    go_wp2_with (first | (go_at_call 62; refine A.out.mono ?_; rintro e w' ⟨rfl, rfl⟩))
    refine bodyPost_ret (v := .tuple #[.bool false, .int .i64 ae]) (by simp [results, Try.results29, go_sem]) rfl ⟨by rw [R.out], rfl⟩

set_option maxHeartbeats 1000000 in
theorem TankMeasures_walk (v : Value) (t : List Int) (i n : Int) (w : World) (hv : IntsAt w v t) :
    Calls Try.prog 5 #[v, .int .i64 i, .int .i64 n] w fun e w' => e = .returned (.bool true) ∧ Below w.heap.size w w' := by
  have L := Lib.hid (long_any v (.slice none 0 0) t [] w hv (ints_nil w))
  have V := Lib.hid hv
  have S := Lib.hid sane_any
  have M1 := Lib.hid (tMeasure_any v t w hv)
  have M2 := Lib.hid (fun w1 hb => rMeasure_any v t w1 (V.out.below hb))
  have C1 := Lib.hid (fun w1 hb => tCan_any v t i n w1 (V.out.below hb))
  have C2 := Lib.hid (fun w1 hb => rCan_any v t i n w1 (V.out.below hb))
  rw [canV_eq, canE_eq] at C1
  obtain ⟨a0, c0, rfl, hl0, _⟩ := hv
  generalize rcanV t i n = rc at *
  generalize amtE t i n = ae at *
  generalize mV t = mv at *
  generalize mE t = me at *
  cases hlong : (decide (20 < t.length) || decide (20 < ([] : List Int).length)) with
  | true =>
    rw [hlong] at L
    clear hlong
    go_enter Try.func5, Try.ntmps5
    go_wp2_with (first | (go_at_call 21; refine L.out.mono ?_; rintro e w' ⟨rfl, rfl⟩) | (go_at_call 20; refine (S.out _).mono ?_; rintro e w' ⟨rfl, hbS⟩))
    go_ret
    exact ⟨rfl, hbS⟩
  | false =>
    rw [hlong] at L
    clear hlong
    go_enter Try.func5, Try.ntmps5
    go_wp2_with (first | (go_at_call 21; refine L.out.mono ?_; rintro e w' ⟨rfl, rfl⟩))
    refine M1.out.mono ?_
    rintro e w1 ⟨rfl, hb1⟩
    go_wp2_with fail
    refine (M2.out w1 hb1).mono ?_
    rintro e w1' ⟨rfl, rfl⟩
    go_wp2_with fail
    refine (C1.out w1 hb1).mono ?_
    rintro e w2 ⟨rfl, hb2⟩
    have hc2 : Below w.heap.size w w2 := hb1.trans (hb2.mono hb1.size)
    go_wp2_with fail
    refine (C2.out w2 hc2).mono ?_
    rintro e w2' ⟨rfl, rfl⟩
    have HC := Lib.hid hc2
    clear M1 M2 C1 C2 hb1 hb2 hc2 L
    go_wp2_with (first | (go_at_call 20; refine (S.out _).mono ?_; rintro e w' ⟨rfl, hbS⟩))
    go_ret
    exact ⟨rfl, HC.out.trans (hbS.mono HC.out.size)⟩

end Go.Proofs.Ytikcpfpeoofppaa
