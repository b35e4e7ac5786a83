/- Contracts: whether two tides are the same, of the program and of the reference. -/
import Derived.Test.YtflhpnhehaokpaaH
namespace Go.Proofs.Ytflhpnhehaokpaa
open Go.RowKit

/-- The speeds of a beat. -/
def onceL (t : List (List Int)) : List Int := sps t (bt (spd t) (rnd t))

theorem spd_eq_all {t u : List (List Int)} (ht : Vld t) (hu : Vld u) (h : ∀ k : Nat, k < 27720 → spd t k = spd u k) : ∀ x : Int, spd t x = spd u x := by
  intro x
  have h1 := ht.per_all.mod x
  have h2 := hu.per_all.mod x
  have h3 := Int.emod_nonneg x (show (27720 : Int) ≠ 0 by decide)
  have h4 := Int.emod_lt_of_pos x (show (0 : Int) < 27720 by decide)
  have h5 := h (x % 27720).toNat (by omega)
  rw [Int.toNat_of_nonneg h3] at h5
  rw [← h1, ← h2, h5]

theorem once_iff {t u : List (List Int)} (ht : Vld t) (hu : Vld u) : onceL t = onceL u ↔ ∀ k : Nat, k < 27720 → spd t k = spd u k := by
  have hbt := bt_pos (f := spd t) ht.rnd_pos
  have hpt := bt_per ht.rnd_pos (spd_per t)
  have hpu := bt_per hu.rnd_pos (spd_per u)
  constructor
  · intro h k _
    have hl : bt (spd t) (rnd t) = bt (spd u) (rnd u) := by
      have := congrArg List.length h
      simpa [onceL, sps_length] using this
    have hm := Nat.mod_lt k hbt
    have h1 := sps_get t (bt (spd t) (rnd t)) (k % bt (spd t) (rnd t)) hm
    have h2 := sps_get u (bt (spd u) (rnd u)) (k % bt (spd t) (rnd t)) (by rw [← hl]; exact hm)
    unfold onceL at h
    rw [h, h2] at h1
    rw [Int.natCast_emod] at h1
    rw [hpt.mod, hl, hpu.mod] at h1
    exact h1.symm
  · intro h
    have hall := spd_eq_all ht hu h
    have hb := bt_same ht.rnd_pos hu.rnd_pos (spd_per t) (spd_per u) hall
    unfold onceL sps
    rw [hb]
    exact List.map_congr_left fun k _ => hall k

/-- What Same answers. -/
def qs (t u : List (List Int)) : Bool := vld t && vld u && decide (onceL t = onceL u)
def qse (t u : List (List Int)) : Int := if vld t && vld u then 0 else 10

theorem qs_yes {t u : List (List Int)} (h : vld t = true) (k : vld u = true) : qs t u = decide (onceL t = onceL u) := by simp [qs, h, k]
theorem qse_yes {t u : List (List Int)} (h : vld t = true) (k : vld u = true) : qse t u = 0 := by simp [qse, h, k]
theorem qs_no1 {t u : List (List Int)} (h : vld t = false) : qs t u = false := by simp [qs, h]
theorem qs_no2 {t u : List (List Int)} (h : vld u = false) : qs t u = false := by simp [qs, h]
theorem qse_no1 {t u : List (List Int)} (h : vld t = false) : qse t u = 10 := by simp [qse, h]
theorem qse_no2 {t u : List (List Int)} (h : vld u = false) : qse t u = 10 := by simp [qse, h]

set_option maxHeartbeats 1000000 in
theorem tSame_any (v x : Value) (t u : List (List Int)) (w : World) (hv : RowsAt w v t) (hx : RowsAt w x u) :
    Calls Try.prog 35 #[v, x] w fun e w' => e = .returned (.tuple #[.bool (qs t u), .int .i64 (qse t u)]) ∧ Below w.heap.size w w' := by
  cases ht : vld t with
  | false =>
    rw [qs_no1 ht, qse_no1 ht]
    have T := Lib.hid ht
    clear ht
    cases hu : vld u with
    | false =>
      have U := Lib.hid hu
      clear hu
      go_enter Try.func35, Try.ntmps35
      go_wp2_with fail
      refine (newTide_no _ _ _ hv T.out).mono ?_
      rintro e w1 ⟨rfl, rfl⟩
      go_wp2_with fail
      refine (newTide_no _ _ _ hx U.out).mono ?_
      rintro e w1 ⟨rfl, rfl⟩
      go_wp2
      go_ret2
      exact ⟨rfl, Below.refl _ _⟩
    | true =>
      have U := Lib.hid hu
      clear hu
      go_enter Try.func35, Try.ntmps35
      go_wp2_with fail
      refine (newTide_no _ _ _ hv T.out).mono ?_
      rintro e w1 ⟨rfl, rfl⟩
      go_wp2_with fail
      refine (newTide_yes _ _ _ hx U.out).mono ?_
      rintro e w1 ⟨uv, rfl, hru, hb1⟩
      go_wp2
      go_ret2
      exact ⟨rfl, hb1⟩
  | true =>
    have T := Lib.hid ht
    cases hu : vld u with
    | false =>
      rw [qs_no2 hu, qse_no2 hu]
      have U := Lib.hid hu
      clear hu ht
      go_enter Try.func35, Try.ntmps35
      go_wp2_with fail
      refine (newTide_yes _ _ _ hv T.out).mono ?_
      rintro e w1 ⟨tv, rfl, hrt, hb1⟩
      go_wp2_with fail
      refine (newTide_no _ _ _ (hx.below hb1) U.out).mono ?_
      rintro e w2 ⟨rfl, rfl⟩
      go_wp2
      go_ret2
      exact ⟨rfl, hb1⟩
    | true =>
      rw [qs_yes ht hu, qse_yes ht hu]
      have U := Lib.hid hu
      have VT := (vld_iff t).1 ht
      have VU := (vld_iff u).1 hu
      clear hu ht
      go_enter Try.func35, Try.ntmps35
      go_wp2_with fail
      refine (newTide_yes _ _ _ hv T.out).mono ?_
      rintro e w1 ⟨tv, rfl, hrt, hb1⟩
      go_wp2_with fail
      refine (newTide_yes _ _ _ (hx.below hb1) U.out).mono ?_
      rintro e w2 ⟨uv, rfl, hru, hb2⟩
      go_wp2_with fail
      refine (once_any _ _ _ (hrt.below hb2) VT).mono ?_
      rintro e w3 ⟨ot, rfl, hot, hb3⟩
      go_wp2_with fail
      refine (once_any _ _ _ (hru.below hb3) VU).mono ?_
      rintro e w4 ⟨ou, rfl, hou, hb4⟩
      go_wp2_with fail
      refine (slEqual_any _ _ _ _ _ (hot.below hb4) hou).mono ?_
      rintro e w5 ⟨rfl, hb5⟩
      go_wp2
      go_ret2
      exact ⟨rfl, below_trans hb1 (below_trans hb2 (below_trans hb3 (below_trans hb4 hb5)))⟩


set_option maxRecDepth 100000 in
set_option maxHeartbeats 1000000 in
theorem rSame_any (v x : Value) (t u : List (List Int)) (w : World) (hv : RowsAt w v t) (hx : RowsAt w x u) :
    Calls Try.prog 36 #[v, x] w fun e w' => e = .returned (.tuple #[.bool (qs t u), .int .i64 (qse t u)]) ∧ Below w.heap.size w w' := by
  cases ht : vld t with
  | false =>
    rw [qs_no1 ht, qse_no1 ht]
    have T := Lib.hid ht
    clear ht
    go_enter Try.func36, Try.ntmps36
    go_wp2_with (first
      | (go_at_call 22; refine (rValid_any _ _ _ hv).mono ?_; rintro e w' ⟨rfl, rfl⟩; rw [T.out]))
    go_ret2
    exact ⟨rfl, Below.refl _ _⟩
  | true =>
    have T := Lib.hid ht
    cases hu : vld u with
    | false =>
      rw [qs_no2 hu, qse_no2 hu]
      have U := Lib.hid hu
      clear hu ht
      go_enter Try.func36, Try.ntmps36
      go_wp2_with fail
      refine (rValid_any _ _ _ hv).mono ?_
      rintro e w1 ⟨rfl, rfl⟩
      rw [T.out]
      go_wp2_with fail
      refine (rValid_any _ _ _ hx).mono ?_
      rintro e w1 ⟨rfl, rfl⟩
      rw [U.out]
      go_wp2
      go_ret2
      exact ⟨rfl, Below.refl _ _⟩
    | true =>
      rw [qs_yes ht hu, qse_yes ht hu]
      have U := Lib.hid hu
      have VT := (vld_iff t).1 ht
      have VU := (vld_iff u).1 hu
      obtain ⟨N, hN⟩ : ∃ N : Nat, N = 27720 := ⟨_, rfl⟩
      have OI' := once_iff VT VU
      rw [← hN] at OI'
      have OI := Lib.hid OI'
      have hN1 : N ≤ 27720 := by omega
      have hN2 : 27720 ≤ N := by omega
      clear hu ht hN OI'
      go_enter Try.func36, Try.ntmps36
      go_wp2_with fail
      refine (rValid_any _ _ _ hv).mono ?_
      rintro e w1 ⟨rfl, rfl⟩
      rw [T.out]
      go_wp2_with fail
      refine (rValid_any _ _ _ hx).mono ?_
      rintro e w1 ⟨rfl, rfl⟩
      rw [U.out]
      go_wp2
      go_loop [15] (fun i => ∃ k : Int, 0 ≤ k ∧ k ≤ N ∧ i = .int .i64 k ∧ Hid (∀ j : Nat, (j : Int) < k → spd t j = spd u j)) (fun i => N - (intOf i).toNat)
      case atStart => exact ⟨0, by omega, by omega, rfl, fun j hj => by omega⟩
      case round =>
        obtain ⟨k, hk0, hk, rfl, H⟩ := hrel
        by_cases hlt : k < 27720
        · by_cases he : spd t k = spd u k
          · have E := Lib.hid he
            have hd : (spd t k != spd u k) = false := by simpa using he
            clear he
            go_wp2_with fail
            refine (rspeed_any _ _ _ _ hv VT).mono ?_
            rintro e w1 ⟨rfl, rfl⟩
            go_wp2_with fail
            refine (rspeed_any _ _ _ _ hx VU).mono ?_
            rintro e w1 ⟨rfl, rfl⟩
            go_wp2
            go_round
            case rel => exact ⟨k + 1, by omega, by omega, rfl, fun j hj => by
              by_cases h : (j : Int) = k
              · rw [h]; exact E.out
              · exact H.out j (by omega)⟩
            case measure => simp [intOf]; omega
          · have D : Hid (decide (onceL t = onceL u) = false) := decide_eq_false (fun e => he (by have := OI.out.1 e k.toNat (by omega); rwa [Int.toNat_of_nonneg hk0] at this))
            have hd : (spd t k != spd u k) = true := by simpa using he
            clear he
            go_wp2_with fail
            refine (rspeed_any _ _ _ _ hv VT).mono ?_
            rintro e w1 ⟨rfl, rfl⟩
            go_wp2_with fail
            refine (rspeed_any _ _ _ _ hx VU).mono ?_
            rintro e w1 ⟨rfl, rfl⟩
            go_wp2
            go_ret2
            exact ⟨by rw [D.out]; rfl, Below.refl _ _⟩
        · have D : Hid (decide (onceL t = onceL u) = true) := decide_eq_true (OI.out.2 (fun j hj => H.out j (by omega)))
          go_wp2
          go_ret2
          exact ⟨by rw [D.out]; rfl, Below.refl _ _⟩

theorem tOnce_yes (v : Value) (t : List (List Int)) (w : World) (hv : RowsAt w v t) (hy : vld t = true) :
    Calls Try.prog 27 #[v] w (GivesLE (onceL t) 0 w) := by
  have := tOnce_any v t w hv
  rwa [ql_yes hy, qe_yes hy] at this

theorem tOnce_no (v : Value) (t : List (List Int)) (w : World) (hv : RowsAt w v t) (hy : vld t = false) :
    Calls Try.prog 27 #[v] w (GivesLE [] 10 w) := by
  have := tOnce_any v t w hv
  rwa [ql_no hy, qe_no hy] at this

end Go.Proofs.Ytflhpnhehaokpaa
