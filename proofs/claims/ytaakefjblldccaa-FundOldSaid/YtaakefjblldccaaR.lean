/- Texts of this claim, laid together: P3, Q, R. -/
import Derived.Test.YtaakefjblldccaaP2
import Derived.Laws.EntriesVeiled
import Derived.Deep.RegionHeld3
import Derived.Deep.AppendLies

/- Contracts: awards by a rule, of the program. -/
namespace Go.Proofs.Ytaakefjblldccaa
open Go.RowKit

theorem Cvl.ne {c : List Int} (h : Cvl c) : c ≠ [] := fun e => by have := h.lo; rw [e] at this; simp at this
theorem Cvl.pos {c : List Int} (h : Cvl c) : ∀ x ∈ c, 0 ≤ x := fun x hx => (h.holds x hx).1
theorem Cvl.tot {c : List Int} (h : Cvl c) : 0 ≤ tot c ∧ tot c ≤ 8000 := by
  have ht := tot_bd h c.length (Nat.le_refl _)
  rw [List.take_length] at ht
  have := h.hi
  omega
theorem Cvl.shr {c : List Int} (h : Cvl c) {e : Int} (r : Int) (he : 0 ≤ e) (hs : e ≤ Go.Proofs.Ytaakefjblldccaa.tot c) : ∃ f Q, Shr c e (shareL c e r) f Q := share_shr h.ne h.pos h.hi h.tot.2 he hs

theorem map_red_mod {c : List Int} {f : Int → Int} {Q B : Int} (hQ : 1 ≤ Q) (h : ∀ x ∈ c, 0 ≤ f x ∧ f x ≤ B) : ∀ y ∈ c.map (fun x => red (f x) Q), 0 ≤ y.1 ∧ y.1 ≤ B ∧ 1 ≤ y.2 ∧ y.2 ≤ Q := fun y hy => by
  obtain ⟨x, hx, rfl⟩ := List.mem_map.1 hy
  obtain ⟨h1, h2⟩ := h x hx
  have a := red_pos (n := f x) hQ h1
  have b := red_bd (n := f x) (d := Q) (B := B) hQ (by omega) h2
  omega
theorem eqW_bd {c : List Int} (h : Cvl c) {e : Int} (he : 0 ≤ e) (hs : e ≤ tot c) : ∀ y ∈ eqW c e, 0 ≤ y.1 ∧ y.1 ≤ 9000 ∧ 1 ≤ y.2 ∧ y.2 ≤ 9 := by
  obtain ⟨p, q, hl, hp, hq, e1⟩ := eqW_shr h.ne h.pos h.hi he hs
  rw [e1]
  intro y hy
  have := map_red_mod (B := 9000) hl.hq (fun x hx => by
    have c1 := cap_facts hl.hq hp (h.holds x hx).1 (Int.le_refl x)
    have : x * q ≤ 1000 * 9 := Int.mul_le_mul (h.holds x hx).2 hq (by have := hl.hq; omega) (by omega)
    omega) y hy
  omega
theorem half_bd {l : List Rat2} (h : ∀ y ∈ l, 0 ≤ y.1 ∧ y.1 ≤ 9000 ∧ 1 ≤ y.2 ∧ y.2 ≤ 9) : ∀ y ∈ halfL l, 0 ≤ y.1 ∧ y.1 ≤ 9000 ∧ 1 ≤ y.2 ∧ y.2 ≤ 18 := fun y hy => by
  obtain ⟨x, hx, rfl⟩ := List.mem_map.1 hy
  have := h x hx
  have a := red_pos (n := x.1) (d := 2 * x.2) (by omega) (by omega)
  have b := red_bd (n := x.1) (d := 2 * x.2) (B := 9000) (by omega) (by omega) (by omega)
  omega
theorem mod_of {l : List Rat2} {A B : Int} (h : ∀ y ∈ l, 0 ≤ y.1 ∧ y.1 ≤ A ∧ 1 ≤ y.2 ∧ y.2 ≤ B) (hA : A ≤ 1000000000) (hB : B ≤ 1000000) : Mod l := fun y hy => by
  have := h y hy; omega
theorem eqW_length (c : List Int) (e : Int) : (eqW c e).length = c.length := by unfold eqW levA; rw [List.length_map]
theorem halfL_length (l : List Rat2) : (halfL l).length = l.length := by unfold halfL; rw [List.length_map]

theorem GivesR.keep {l : List Rat2} {w w1 : World} {e : Ending} {w' : World} (hb : Below w.heap.size w w1) (h : GivesR l w1 e w') : GivesR l w e w' := by
  obtain ⟨v, rfl, ho, hb2⟩ := h
  exact ⟨v, rfl, ho.base hb.size, below_trans hb hb2⟩


set_option maxHeartbeats 1000000 in
theorem losses_any (v : Value) (c : List Int) (e0 : Int) (w : World) (hv : IntsAt w v c) (hc : Cvl c) (he : 0 ≤ e0) (hes : e0 ≤ tot c) :
    Calls Try.prog 115 #[v, .int .i64 e0] w (GivesR (lessL c (eqW c (tot c - e0))) w) := by
  have HV := Lib.hid hv
  have HH := Lib.hid hc
  have ht := hc.tot
  have E1 := Lib.hid (equal_any v c (tot c - e0) w hv hc (by omega) (by omega))
  have M1 := Lib.hid (eqW_bd hc (e := tot c - e0) (by omega) (by omega))
  have L1 := Lib.hid (eqW_length c (tot c - e0))
  have hhi := hc.hi
  clear hv hc
  have l8 : (eqW c (tot c - e0)).length ≤ 9223372036854775807 := by rw [L1.out]; omega
  have S := Lib.hid (sum_any v c w HV.out HH.out)
  generalize hg : eqW c (tot c - e0) = E at *
  have HE := Lib.hid hg
  clear hg
  generalize tot c = t at *
  go_enter Try.func115, Try.ntmps115
  go_wp2_with fail
  refine (S.out).mono ?_
  rintro e w' ⟨rfl, rfl⟩
  go_wp2_with fail
  refine E1.out.mono ?_
  rintro e w1 ⟨v1, rfl, ho, hb1⟩
  go_wp2_with fail
  refine (less_any v v1 c E w1 (HV.out.below hb1) (ho.at l8) HH.out L1.out (mod_of M1.out (by omega) (by omega))).mono ?_
  rintro e w2 ⟨v2, rfl, ho2, hb2⟩
  have O := Lib.hid (ho2.base hb1.size)
  have B := Lib.hid (below_trans hb1 hb2)
  clear ho ho2 hb1 hb2
  go_wp2
  go_ret
  exact ⟨_, rfl, O.out, B.out⟩

/-- The awards by the old rule. -/
def oldL (c : List Int) (e : Int) : List Rat2 := if 2 * e > tot c then lessL c (halfL (eqW c (2 * (tot c - e)))) else halfL (eqW c (2 * e))

set_option maxHeartbeats 1000000 in
theorem old_any (v : Value) (c : List Int) (e0 : Int) (w : World) (hv : IntsAt w v c) (hc : Cvl c) (he : 0 ≤ e0) (hes : e0 ≤ tot c) :
    Calls Try.prog 116 #[v, .int .i64 e0] w (GivesR (oldL c e0) w) := by
  have HV := Lib.hid hv
  have HH := Lib.hid hc
  have ht := hc.tot
  have hhi := hc.hi
  have S := Lib.hid (sum_any v c w hv hc)
  by_cases h2 : tot c < 2 * e0
  · have OL : Hid (oldL c e0 = lessL c (halfL (eqW c (2 * (tot c - e0))))) := Lib.hid (by unfold oldL; rw [if_pos h2])
    have E1 := Lib.hid (equal_any v c (2 * (tot c - e0)) w hv hc (by omega) (by omega))
    have M1 := Lib.hid (eqW_bd hc (e := 2 * (tot c - e0)) (by omega) (by omega))
    have L1 := Lib.hid (eqW_length c (2 * (tot c - e0)))
    have l8 : (eqW c (2 * (tot c - e0))).length ≤ 8 := by rw [L1.out]; omega
    rw [OL.out]
    clear OL hv hc
    generalize hg : eqW c (2 * (tot c - e0)) = E at *
    clear hg
    have M2 := Lib.hid (half_bd M1.out)
    have L2 : Hid ((halfL E).length = c.length) := Lib.hid (by rw [halfL_length, L1.out])
    have l9 : (halfL E).length ≤ 9223372036854775807 := by rw [L2.out]; omega
    generalize tot c = t at *
    go_enter Try.func116, Try.ntmps116
    go_wp2_with fail
    refine (S.out).mono ?_
    rintro e w' ⟨rfl, rfl⟩
    go_wp2_with fail
    refine E1.out.mono ?_
    rintro e w1 ⟨v1, rfl, ho, hb1⟩
    go_wp2_with fail
    refine (half_any v1 E w1 (ho.at (by omega)) l8 (mod_of M1.out (by omega) (by omega))).mono ?_
    rintro e w2 ⟨v2, rfl, ho2, hb2'⟩
    have hb2 := below_trans hb1 hb2'
    go_wp2_with fail
    refine (less_any v v2 c (halfL E) w2 (HV.out.below hb2) (ho2.at l9) HH.out L2.out (mod_of M2.out (by omega) (by omega))).mono ?_
    rintro e w3 ⟨v3, rfl, ho3, hb3⟩
    have O := Lib.hid (ho3.base hb2.size)
    have B := Lib.hid (below_trans hb2 hb3)
    clear ho ho2 ho3 hb1 hb2 hb2' hb3
    go_wp2
    go_ret
    exact ⟨_, rfl, O.out, B.out⟩
  · have OL : Hid (oldL c e0 = halfL (eqW c (2 * e0))) := Lib.hid (by unfold oldL; rw [if_neg h2])
    have E1 := Lib.hid (equal_any v c (2 * e0) w hv hc (by omega) (by omega))
    have M1 := Lib.hid (eqW_bd hc (e := 2 * e0) (by omega) (by omega))
    have L1 := Lib.hid (eqW_length c (2 * e0))
    have l8 : (eqW c (2 * e0)).length ≤ 8 := by rw [L1.out]; omega
    rw [OL.out]
    clear OL hv hc
    generalize hg : eqW c (2 * e0) = E at *
    clear hg
    generalize tot c = t at *
    go_enter Try.func116, Try.ntmps116
    go_wp2_with fail
    refine (S.out).mono ?_
    rintro e w' ⟨rfl, rfl⟩
    go_wp2_with fail
    refine E1.out.mono ?_
    rintro e w1 ⟨v1, rfl, ho, hb1⟩
    go_wp2_with fail
    refine (half_any v1 E w1 (ho.at (by omega)) l8 (mod_of M1.out (by omega) (by omega))).mono ?_
    rintro e w2 ⟨v2, rfl, ho2, hb2⟩
    have O := Lib.hid (ho2.base hb1.size)
    have B := Lib.hid (below_trans hb1 hb2)
    clear ho ho2 hb1 hb2
    go_wp2
    go_ret
    exact ⟨_, rfl, O.out, B.out⟩


set_option maxHeartbeats 1000000 in
theorem ruled_no (n : Int) (w : World) (h : betw 1 n 4 = false) :
    Calls Try.prog 96 #[.int .i64 n] w fun e w' => (∃ v, e = .returned (.tuple #[v, .bool false])) ∧ Below w.heap.size w w' := by
  have H := Lib.hid h
  clear h
  go_enter Try.func96, Try.ntmps96
  go_wp2_with fail
  refine (between_any _ _ _ _).mono ?_
  rintro e w' ⟨rfl, rfl⟩
  rw [H.out]
  go_wp2
  go_ret2
  exact ⟨⟨_, rfl⟩, (Below.refl _ _).alloc (Nat.le_refl _) _⟩

set_option maxHeartbeats 1000000 in
theorem ruled_1 (w : World) :
    Calls Try.prog 96 #[.int .i64 1] w fun e w' => e = .returned (.tuple #[.func (.func 114) #[] #[], .bool true]) ∧ Below w.heap.size w w' := by
  have H : Hid (betw 1 1 4 = true) := Lib.hid rfl
  go_enter Try.func96, Try.ntmps96
  go_wp2_with fail
  refine (between_any _ _ _ _).mono ?_
  rintro e w' ⟨rfl, rfl⟩
  rw [H.out]
  go_wp2
  go_ret2
  exact ⟨rfl, (Below.refl _ _).alloc (Nat.le_refl _) _⟩

set_option maxHeartbeats 1000000 in
theorem ruled_2 (w : World) :
    Calls Try.prog 96 #[.int .i64 2] w fun e w' => e = .returned (.tuple #[.func (.func 74) #[] #[], .bool true]) ∧ Below w.heap.size w w' := by
  have H : Hid (betw 1 2 4 = true) := Lib.hid rfl
  go_enter Try.func96, Try.ntmps96
  go_wp2_with fail
  refine (between_any _ _ _ _).mono ?_
  rintro e w' ⟨rfl, rfl⟩
  rw [H.out]
  go_wp2
  go_ret2
  exact ⟨rfl, (Below.refl _ _).alloc (Nat.le_refl _) _⟩

set_option maxHeartbeats 1000000 in
theorem ruled_3 (w : World) :
    Calls Try.prog 96 #[.int .i64 3] w fun e w' => e = .returned (.tuple #[.func (.func 115) #[] #[], .bool true]) ∧ Below w.heap.size w w' := by
  have H : Hid (betw 1 3 4 = true) := Lib.hid rfl
  go_enter Try.func96, Try.ntmps96
  go_wp2_with fail
  refine (between_any _ _ _ _).mono ?_
  rintro e w' ⟨rfl, rfl⟩
  rw [H.out]
  go_wp2
  go_ret2
  exact ⟨rfl, (Below.refl _ _).alloc (Nat.le_refl _) _⟩

set_option maxHeartbeats 1000000 in
theorem ruled_4 (w : World) :
    Calls Try.prog 96 #[.int .i64 4] w fun e w' => e = .returned (.tuple #[.func (.func 116) #[] #[], .bool true]) ∧ Below w.heap.size w w' := by
  have H : Hid (betw 1 4 4 = true) := Lib.hid rfl
  go_enter Try.func96, Try.ntmps96
  go_wp2_with fail
  refine (between_any _ _ _ _).mono ?_
  rintro e w' ⟨rfl, rfl⟩
  rw [H.out]
  go_wp2
  go_ret2
  exact ⟨rfl, (Below.refl _ _).alloc (Nat.le_refl _) _⟩

/-- The first error of claims, an estate and a rule; the awards. -/
def shareE (c : List Int) (n r : Int) : Int := if askE c n = 0 then (if betw 1 r 4 then 0 else 2) else askE c n
def shareV (c : List Int) (n r : Int) : List Rat2 := if shareE c n r = 0 then shareL c n r else []
def GivesS (c : List Int) (n r : Int) (w : World) (e : Ending) (w' : World) : Prop :=
  ∃ v, e = .returned (.tuple #[v, .int .i64 (shareE c n r)]) ∧ OwnR w' w.heap.size v (shareV c n r) ∧ Below w.heap.size w w'

theorem askE_ok2 {c : List Int} {n : Int} (h : askE c n = 0) : Cvl c ∧ 0 ≤ n ∧ n ≤ tot c := by
  unfold askE at h
  split at h
  · rename_i h1
    split at h
    · rename_i h2
      have hb := (betw_iff _ _ _).1 h2
      exact ⟨(cvl_iff c).1 h1, by omega, by omega⟩
    · omega
  · omega

theorem shareE_ok {c : List Int} {n r : Int} (h : shareE c n r = 0) : askE c n = 0 ∧ 1 ≤ r ∧ r ≤ 4 := by
  unfold shareE at h
  split at h
  · split at h
    · rename_i h1 h2
      have hb := (betw_iff _ _ _).1 h2
      exact ⟨h1, by omega, by omega⟩
    · omega
  · rename_i h1
    exact absurd h h1


set_option maxHeartbeats 2000000 in
theorem shared_any (v : Value) (c : List Int) (n r : Int) (w : World) (hv : IntsAt w v c) :
    Calls Try.prog 63 #[v, .int .i64 n, .int .i64 r] w (GivesS c n r w) := by
  have HV := Lib.hid hv
  clear hv
  by_cases h0 : askE c n = 0
  · obtain ⟨hc, h1, h2⟩ := askE_ok2 h0
    have A := Lib.hid h0
    have HH := Lib.hid hc
    have h3 := hc.tot
    clear h0 hc
    cases hr : betw 1 r 4 with
    | false =>
      have R := Lib.hid hr
      have E0 : Hid (shareE c n r = 2) := Lib.hid (by unfold shareE; rw [if_pos A.out, hr]; rfl)
      have V0 : Hid (shareV c n r = []) := Lib.hid (by unfold shareV; rw [E0.out]; rfl)
      clear hr
      go_enter Try.func63, Try.ntmps63
      go_wp2_with fail
      refine (checked_any _ _ _ _ HV.out).mono ?_
      rintro e w' ⟨rfl, rfl⟩
      rw [A.out]
      go_wp2_with fail
      refine (ruled_no _ _ R.out).mono ?_
      rintro e w1 ⟨⟨v1, rfl⟩, hb1⟩
      go_wp2
      go_ret2
      exact ⟨.slice none 0 0, by rw [E0.out]; rfl, by rw [V0.out]; exact OwnR.nil _ _, hb1⟩
    | true =>
      have hb := (betw_iff _ _ _).1 hr
      have h4 : r = 1 ∨ r = 2 ∨ r = 3 ∨ r = 4 := by omega
      clear hr hb
      rcases h4 with rfl | rfl | rfl | rfl
      · have h5 : n ≤ 8000 := by omega
        have PC := fun w1 (q : IntsAt w1 v c) => proportion_any v c n w1 q HH.out h1 h5
        have E0 : Hid (shareE c n 1 = 0) := Lib.hid (by unfold shareE; rw [if_pos A.out]; rfl)
        have V0 : Hid (shareV c n 1 = propL c n) := Lib.hid (by unfold shareV; rw [if_pos E0.out]; rfl)
        have PH := Lib.hid PC
        clear PC
        go_enter Try.func63, Try.ntmps63
        go_wp2_with fail
        refine (checked_any _ _ _ _ HV.out).mono ?_
        rintro e w' ⟨rfl, rfl⟩
        rw [A.out]
        go_wp2_with fail
        refine (ruled_1 _).mono ?_
        rintro e w1 ⟨rfl, hb1⟩
        go_wp2_with fail
        refine (PH.out w1 (HV.out.below hb1)).mono ?_
        rintro e w2 ⟨v2, rfl, ho2, hb2⟩
        have O := Lib.hid (ho2.base hb1.size)
        have B := Lib.hid (below_trans hb1 hb2)
        clear ho2 hb1 hb2
        go_wp2
        go_ret2
        exact ⟨_, by rw [E0.out]; rfl, by rw [V0.out]; exact O.out, B.out⟩
      · have E0 : Hid (shareE c n 2 = 0) := Lib.hid (by unfold shareE; rw [if_pos A.out]; rfl)
        have V0 : Hid (shareV c n 2 = eqW c n) := Lib.hid (by unfold shareV; rw [if_pos E0.out]; rfl)
        go_enter Try.func63, Try.ntmps63
        go_wp2_with fail
        refine (checked_any _ _ _ _ HV.out).mono ?_
        rintro e w' ⟨rfl, rfl⟩
        rw [A.out]
        go_wp2_with fail
        refine (ruled_2 _).mono ?_
        rintro e w1 ⟨rfl, hb1⟩
        go_wp2_with fail
        refine (equal_any v c n w1 (HV.out.below hb1) HH.out h1 h2).mono ?_
        rintro e w2 ⟨v2, rfl, ho2, hb2⟩
        have O := Lib.hid (ho2.base hb1.size)
        have B := Lib.hid (below_trans hb1 hb2)
        clear ho2 hb1 hb2
        go_wp2
        go_ret2
        exact ⟨_, by rw [E0.out]; rfl, by rw [V0.out]; exact O.out, B.out⟩
      · have E0 : Hid (shareE c n 3 = 0) := Lib.hid (by unfold shareE; rw [if_pos A.out]; rfl)
        have V0 : Hid (shareV c n 3 = lessL c (eqW c (tot c - n))) := Lib.hid (by unfold shareV; rw [if_pos E0.out]; rfl)
        go_enter Try.func63, Try.ntmps63
        go_wp2_with fail
        refine (checked_any _ _ _ _ HV.out).mono ?_
        rintro e w' ⟨rfl, rfl⟩
        rw [A.out]
        go_wp2_with fail
        refine (ruled_3 _).mono ?_
        rintro e w1 ⟨rfl, hb1⟩
        go_wp2_with fail
        refine (losses_any v c n w1 (HV.out.below hb1) HH.out h1 h2).mono ?_
        rintro e w2 ⟨v2, rfl, ho2, hb2⟩
        have O := Lib.hid (ho2.base hb1.size)
        have B := Lib.hid (below_trans hb1 hb2)
        clear ho2 hb1 hb2
        go_wp2
        go_ret2
        exact ⟨_, by rw [E0.out]; rfl, by rw [V0.out]; exact O.out, B.out⟩
      · have E0 : Hid (shareE c n 4 = 0) := Lib.hid (by unfold shareE; rw [if_pos A.out]; rfl)
        have V0 : Hid (shareV c n 4 = oldL c n) := Lib.hid (by unfold shareV; rw [if_pos E0.out]; rfl)
        go_enter Try.func63, Try.ntmps63
        go_wp2_with fail
        refine (checked_any _ _ _ _ HV.out).mono ?_
        rintro e w' ⟨rfl, rfl⟩
        rw [A.out]
        go_wp2_with fail
        refine (ruled_4 _).mono ?_
        rintro e w1 ⟨rfl, hb1⟩
        go_wp2_with fail
        refine (old_any v c n w1 (HV.out.below hb1) HH.out h1 h2).mono ?_
        rintro e w2 ⟨v2, rfl, ho2, hb2⟩
        have O := Lib.hid (ho2.base hb1.size)
        have B := Lib.hid (below_trans hb1 hb2)
        clear ho2 hb1 hb2
        go_wp2
        go_ret2
        exact ⟨_, by rw [E0.out]; rfl, by rw [V0.out]; exact O.out, B.out⟩
  · have E0 : Hid (shareE c n r = askE c n) := Lib.hid (by unfold shareE; rw [if_neg h0])
    have V0 : Hid (shareV c n r = []) := Lib.hid (by unfold shareV; rw [E0.out, if_neg h0])
    have hb : (askE c n != 0) = true := by rw [bne_iff_ne]; exact h0
    clear h0
    go_enter Try.func63, Try.ntmps63
    go_wp2_with fail
    refine (checked_any _ _ _ _ HV.out).mono ?_
    rintro e w' ⟨rfl, rfl⟩
    go_wp2
    go_ret2
    exact ⟨.slice none 0 0, by rw [E0.out]; rfl, by rw [V0.out]; exact OwnR.nil _ _, Below.refl _ _⟩

set_option maxHeartbeats 1000000 in
theorem Share_any (v : Value) (c : List Int) (n r : Int) (w : World) (hv : IntsAt w v c) :
    Calls Try.prog 27 #[v, .int .i64 n, .int .i64 r] w (GivesS c n r w) := by
  have S := Lib.hid (shared_any v c n r w hv)
  clear hv
  go_enter Try.func27, Try.ntmps27
  go_wp2_with fail
  refine S.out.mono ?_
  rintro e w1 ⟨v1, rfl, ho, hb⟩
  have O := Lib.hid ho
  have B := Lib.hid hb
  clear ho hb
  go_wp2
  go_ret2
  exact ⟨_, rfl, O.out, B.out⟩

/-- The sum of the claims less the estate. -/
def missV (c : List Int) (n : Int) : Int := if askE c n = 0 then tot c - n else 0


set_option maxHeartbeats 1000000 in
theorem Missing_any (v : Value) (c : List Int) (n : Int) (w : World) (hv : IntsAt w v c) :
    Calls Try.prog 40 #[v, .int .i64 n] w fun e w' => e = .returned (.tuple #[.int .i64 (missV c n), .int .i64 (askE c n)]) ∧ w = w' := by
  have HV := Lib.hid hv
  clear hv
  by_cases h0 : askE c n = 0
  · obtain ⟨hc, h1, h2⟩ := askE_ok2 h0
    have A := Lib.hid h0
    have h3 := hc.tot
    have S := Lib.hid (sum_any v c w HV.out hc)
    have M : Hid (missV c n = tot c - n) := Lib.hid (by unfold missV; rw [if_pos h0])
    clear h0 hc
    generalize tot c = t at *
    go_enter Try.func40, Try.ntmps40
    go_wp2_with fail
    refine (checked_any _ _ _ _ HV.out).mono ?_
    rintro e w' ⟨rfl, rfl⟩
    rw [A.out]
    go_wp2_with fail
    refine S.out.mono ?_
    rintro e w' ⟨rfl, rfl⟩
    go_wp2
    go_ret2
    exact ⟨by rw [M.out, A.out]; rfl, rfl⟩
  · have M : Hid (missV c n = 0) := Lib.hid (by unfold missV; rw [if_neg h0])
    have hb : (askE c n != 0) = true := by rw [bne_iff_ne]; exact h0
    clear h0
    go_enter Try.func40, Try.ntmps40
    go_wp2_with fail
    refine (checked_any _ _ _ _ HV.out).mono ?_
    rintro e w' ⟨rfl, rfl⟩
    go_wp2
    go_ret2
    exact ⟨by rw [M.out]; rfl, rfl⟩

set_option maxHeartbeats 1000000 in
theorem rMissing_any (v : Value) (c : List Int) (n : Int) (w : World) (hv : IntsAt w v c) :
    Calls Try.prog 41 #[v, .int .i64 n] w fun e w' => e = .returned (.tuple #[.int .i64 (missV c n), .int .i64 (askE c n)]) ∧ w = w' := by
  have HV := Lib.hid hv
  clear hv
  by_cases h0 : askE c n = 0
  · obtain ⟨hc, h1, h2⟩ := askE_ok2 h0
    have A := Lib.hid h0
    have h3 := hc.tot
    have S := Lib.hid (total_any v c w HV.out hc)
    have M : Hid (missV c n = tot c - n) := Lib.hid (by unfold missV; rw [if_pos h0])
    clear h0 hc
    generalize tot c = t at *
    go_enter Try.func41, Try.ntmps41
    go_wp2_with fail
    refine (rasked_any _ _ _ _ HV.out).mono ?_
    rintro e w' ⟨rfl, rfl⟩
    rw [A.out]
    go_wp2_with fail
    refine S.out.mono ?_
    rintro e w' ⟨rfl, rfl⟩
    go_wp2
    go_ret2
    exact ⟨by rw [M.out, A.out]; rfl, rfl⟩
  · have M : Hid (missV c n = 0) := Lib.hid (by unfold missV; rw [if_neg h0])
    have hb : (askE c n != 0) = true := by rw [bne_iff_ne]; exact h0
    clear h0
    go_enter Try.func41, Try.ntmps41
    go_wp2_with fail
    refine (rasked_any _ _ _ _ HV.out).mono ?_
    rintro e w' ⟨rfl, rfl⟩
    go_wp2
    go_ret2
    exact ⟨by rw [M.out]; rfl, rfl⟩

end Go.Proofs.Ytaakefjblldccaa

/- Contracts: the reference's claims less awards. -/
namespace Go.Proofs.Ytaakefjblldccaa
open Go.RowKit

theorem OwnR.drew {w : World} {B : Nat} {v : Value} {l : List Rat2} (h : OwnR w B v l) : OwnR w.drew B v l := own_below h ((Below.refl _ w).drew)

set_option maxRecDepth 100000 in
set_option maxHeartbeats 3200000 in
theorem rless_any (v x : Value) (c : List Int) (l : List Rat2) (w : World) (hv : IntsAt w v c) (hx : RatsAt w x l) (hc : Cvl c) (hl : l.length = c.length) (hm : Mod l) :
    Calls Try.prog 105 #[v, x] w (GivesR (lessL c l) w) := by
  obtain ⟨i0, hi0, hz0, hz1, hz2⟩ := info_parts Try.infoRatio
  have hhi := hc.hi
  have hlo := hc.lo
  have lc : c.length ≤ l.length := by omega
  obtain ⟨b, off, cap, rfl, hcc⟩ := ints_cell hv (by omega)
  obtain ⟨b2, off2, cap2, hcap, rfl, hcl⟩ := rats_cell hx (by omega)
  have HC := Lib.hid hcc
  have HR := Lib.hid hcl
  have HM := Lib.hid hm
  have HH := Lib.hid hc
  have HL := Lib.hid (lessL_length c l hl)
  clear hm hv hx hc hl hcc hcl
  go_enter Try.func105, Try.ntmps105
  go_wp2
  go_loopw [5, 6] (fun o i wr => ∃ k : Nat, k ≤ c.length ∧ i = .int .i64 k ∧ OwnR wr w.heap.size o ((lessL c l).take k) ∧ Below w.heap.size w wr) (fun _ i _ => c.length - (intOf i).toNat)
  case atStart => exact ⟨0, Nat.zero_le _, rfl, OwnR.nil _ _, Below.refl _ _⟩
  case round =>
    obtain ⟨k, hk, rfl, hown, hbel⟩ := hrel
    have hTk : ((lessL c l).take k).length ≤ 8 := by have := HL.out; simp; omega
    by_cases hlt : k < c.length
    · have hkl : k < l.length := by omega
      obtain ⟨x0, d0⟩ := HR.out k hkl
      have c0 := HC.out k hlt
      have x1 := keep_cell hbel x0
      have d1 := keep_cell hbel d0
      have c1 := keep_cell hbel c0
      have hx := HM.out _ (getD_mem2 hkl)
      have hcb := HH.out.holds _ (mem_getD hlt)
      have T := Lib.hid (less_snoc hlt hkl)
      have hi0' : (0 : Int) ≤ (k : Int) := Int.natCast_nonneg _
      have hi1 : (k : Int) < (c.length : Int) := by omega
      have hi2 : (k : Int) < (l.length : Int) := by omega
      generalize l.getD k (0, 0) = xd at *
      obtain ⟨n, d⟩ := xd
      simp only at x1 d1 hx T x0 d0
      generalize c.getD k 0 = cl at *
      have m1 : 0 ≤ cl * d ∧ cl * d ≤ 1000 * 1000000 := ⟨Int.mul_nonneg (by omega) (by omega), Int.mul_le_mul (by omega) (by omega) (by omega) (by omega)⟩
      have RQ := Lib.hid (fun W => rRatio_any (cl * d - n) d W (by omega) (by omega) (by omega) (by omega))
      have hbl : b < w.heap.size := World.block_lt_of_cell? _ _ c0
      have hbl2 : b2 < w.heap.size := World.block_lt_of_cell? _ _ x0
      have C0 := Lib.hid c0
      have X0 := Lib.hid x0
      have D0 := Lib.hid d0
      have HO := Lib.hid hown
      have HB := Lib.hid hbel
      have hsz := hbel.size
      have e1 : IntKind.i64.wrap (cl * d) = cl * d := IntWalk.i64_in _ (by omega)
      have e2 : IntKind.i64.wrap (cl * d - n) = cl * d - n := IntWalk.i64_in _ (by omega)
      clear c0 x0 d0 hown hbel
      go_wp2_with fail
      go_region_held3 (fun w' => w'.cell? ⟨b, off + k, none⟩ = some (.int .i64 cl) ∧ w'.cell? ⟨b2, off2 + k * 2, none⟩ = some (.int .i64 n) ∧ w'.cell? ⟨b2, off2 + k * 2 + 1, none⟩ = some (.int .i64 d))
        (first
          | (exact ⟨keep_cell hB3 C0.out, keep_cell hB3 X0.out, keep_cell hB3 D0.out⟩)
          | (exact ⟨keep_cell (hbW.alloc hbW.size _) C0.out, keep_cell (hbW.alloc hbW.size _) X0.out, keep_cell (hbW.alloc hbW.size _) D0.out⟩)
          | (exact ⟨keep_cell hbW C0.out, keep_cell hbW X0.out, keep_cell hbW D0.out⟩)
          | go_keep)
        (first
          | (go_at_call 56; refine (RQ.out _).mono ?_; rintro e w2 ⟨rfl, hb2⟩; have hbW := below_trans HB.out.drew hb2; have hownW := HO.out.drew.below hb2; unfold ratV)
          | (refine step_append_lies _ (by rfl) _ _ _ (by rfl) w.heap.size 23 i0 _ 2 16 Try.underlying30 hi0 hz0 hz1 hz2 rfl (by omega) _ _ _ (by rfl) (hownW.row.alloc _)
              ⟨w2.heap.size, 0, none⟩ 1 1 [.int .i64 (rn (cl * d - n) d), .int .i64 (rd (cl * d - n) d)] (by rfl) (by rfl) (World.news_of_block (cs := #[.int .i64 (rn (cl * d - n) d), .int .i64 (rd (cl * d - n) d)]) (t := 23) (fr := (0, 0)) (heap_alloc_new w2 _)) (by simp [Value.oneCell'])
              (by omega) (by unfold maxLen; omega) (by omega) (by have := hbW.size; simp; omega) (w2.heap.size + 1) (by simp) ?_; intro gg cp w3 hown' hgrow hat hlt3; have hB3 := below_append hbW hbW.size hownW.row hgrow))
      have O3 : Hid (OwnR w3 w.heap.size _ ((lessL c l).take (k + 1))) := Lib.hid (by rw [T.out]; exact OwnR.snoc (by first | rfl | simp) hown')
      have B3 := Lib.hid hB3
      clear hown' hgrow hownW hbW hB3 e1 e2 hb2 x1 d1 c1
      go_wp2
      go_roundw
      case rel => exact ⟨k + 1, by omega, by go_num, (by have := O3.out; rwa [List.length_take] at this), B3.out⟩
      case measure => simp [intOf]; omega
    · have e : k = c.length := by omega
      subst e
      have O : Hid (OwnR wr w.heap.size u5 (lessL c l)) := Lib.hid (by rwa [List.take_of_length_le (by rw [HL.out]; exact Nat.le_refl _)] at hown)
      have B := Lib.hid hbel
      clear hown hbel
      go_wp2
      go_ret
      exact ⟨_, rfl, O.out, B.out⟩

end Go.Proofs.Ytaakefjblldccaa

/- Contracts: the reference's halves. -/
namespace Go.Proofs.Ytaakefjblldccaa
open Go.RowKit

theorem flatR_set : ∀ (l : List Rat2) (k : Nat) (x : Rat2), k < l.length → flatR (l.set k x) = ((flatR l).set (k * 2) (.int .i64 x.1)).set (k * 2 + 1) (.int .i64 x.2)
  | d :: l, 0, x, _ => by simp [flatR, ratC]
  | d :: l, k + 1, x, h => by
    have ih := flatR_set l k x (by simpa using h)
    rw [show (k + 1) * 2 = k * 2 + 2 by omega, show k * 2 + 2 + 1 = (k * 2 + 1) + 2 by omega]
    simp only [flatR, List.flatMap_cons, List.set_cons_succ, ratC] at ih ⊢
    simp only [List.cons_append, List.nil_append, List.set_cons_succ]
    rw [ih]

theorem OwnR.set {w : World} {B g cap : Nat} {l : List Rat2} {n : Nat} (h : OwnR w B (.slice (some ⟨g, 0, none⟩) n cap) l) (hn : n = l.length) {k : Nat} (hk : k < l.length) (x : Rat2) :
    OwnR ((w.setCell ⟨g, k * 2, none⟩ (.int .i64 x.1)).setCell ⟨g, k * 2 + 1, none⟩ (.int .i64 x.2)) B (.slice (some ⟨g, 0, none⟩) n cap) (l.set k x) := by
  subst hn
  unfold OwnR at h ⊢
  have h1 := (World.ownsRow.stored h (k * 2) (.int .i64 x.1)).1
  have h2 := (World.ownsRow.stored h1 (k * 2 + 1) (.int .i64 x.2)).1
  rw [List.length_set, flatR_set l k x hk]
  exact h2

/-- An own list that is not empty. -/
theorem OwnR.split {w : World} {B : Nat} {v : Value} {l : List Rat2} (h : OwnR w B v l) (h0 : 0 < l.length) : ∃ g cap, v = .slice (some ⟨g, 0, none⟩) l.length cap ∧ B ≤ g ∧ g < w.heap.size := by
  rcases h.2 with ⟨rfl, hn⟩ | ⟨g, cap, cur, rfl, hg, hh, _⟩
  · omega
  · exact ⟨g, cap, rfl, hg, (Array.getElem?_eq_some_iff.1 hh).1⟩
theorem OwnR.cells {w : World} {B g cap n : Nat} {l : List Rat2} (h : OwnR w B (.slice (some ⟨g, 0, none⟩) n cap) l) (hn : n = l.length) {k : Nat} (hk : k < l.length) :
    w.cell? ⟨g, k * 2, none⟩ = some (.int .i64 (l.getD k (0, 0)).1) ∧ w.cell? ⟨g, k * 2 + 1, none⟩ = some (.int .i64 (l.getD k (0, 0)).2) ∧ w.frozen? ⟨g, k * 2, none⟩ = false ∧ w.frozen? ⟨g, k * 2 + 1, none⟩ = false := by
  subst hn
  obtain ⟨e1, e2⟩ := flatR_at l k hk
  exact ⟨(World.ownsRow.cellAt h _ (by omega)).trans e1, (World.ownsRow.cellAt h _ (by omega)).trans e2, World.ownsRow.frozenAt h _, World.ownsRow.frozenAt h _⟩

/-- Halved up to k. -/
def halfTo (l : List Rat2) (k : Nat) : List Rat2 := (halfL l).take k ++ l.drop k
theorem halfTo_length (l : List Rat2) (k : Nat) (hk : k ≤ l.length) : (halfTo l k).length = l.length := by
  unfold halfTo; simp [halfL]; omega
theorem halfTo_at {l : List Rat2} {k : Nat} (hk : k < l.length) : (halfTo l k).getD k (0, 0) = l.getD k (0, 0) := by
  unfold halfTo
  have : ((halfL l).take k).length = k := by simp [halfL]; omega
  simp only [List.getD_eq_getElem?_getD]
  rw [List.getElem?_append_right (by omega), this, List.getElem?_drop]
  simp
theorem halfTo_set {l : List Rat2} {k : Nat} (hk : k < l.length) : (halfTo l k).set k (red (l.getD k (0, 0)).1 (2 * (l.getD k (0, 0)).2)) = halfTo l (k + 1) := by
  unfold halfTo
  have : ((halfL l).take k).length = k := by simp [halfL]; omega
  have e : l.drop k = l[k] :: l.drop (k + 1) := List.drop_eq_getElem_cons hk
  rw [List.set_append_right _ _ (by omega), this, Nat.sub_self, half_snoc hk, e]
  simp only [List.set_cons_zero, List.append_assoc, List.singleton_append]
theorem halfTo_end (l : List Rat2) : halfTo l l.length = halfL l := by
  unfold halfTo; rw [List.drop_length, List.append_nil, List.take_of_length_le (by simp [halfL])]

set_option maxRecDepth 100000 in
set_option maxHeartbeats 3200000 in
/-- The loop, behind the equal awards. -/
theorem rhalves_any (EQ : ∀ (v : Value) (c : List Int) (e0 : Int) (w : World), IntsAt w v c → Cvl c → 0 ≤ e0 → e0 ≤ tot c → Calls Try.prog 76 #[v, .int .i64 e0] w (GivesR (eqW c e0) w))
    (v : Value) (c : List Int) (e0 : Int) (w : World) (hv : IntsAt w v c) (hc : Cvl c) (he : 0 ≤ e0) (hes : 2 * e0 ≤ tot c) :
    Calls Try.prog 106 #[v, .int .i64 e0] w (GivesR (halfL (eqW c (2 * e0))) w) := by
  have E1 := Lib.hid (EQ v c (2 * e0) w hv hc (by omega) hes)
  have M1 := Lib.hid (eqW_bd hc (e := 2 * e0) (by omega) hes)
  have hll := eqW_length c (2 * e0)
  have hhi := hc.hi
  have hlo := hc.lo
  have ht := hc.tot
  have e8 : e0 ≤ 8000 := by omega
  clear hv hc EQ hes ht
  generalize eqW c (2 * e0) = l at *
  have l0 : 0 < l.length := by omega
  have l8 : l.length ≤ 8 := by omega
  clear hll hhi hlo
  go_enter Try.func106, Try.ntmps106
  go_wp2_with fail
  refine E1.out.mono ?_
  rintro e w1 ⟨v1, rfl, ho, hb1⟩
  obtain ⟨g, cap, rfl, hg, hgl⟩ := ho.split l0
  have HO := Lib.hid ho
  have HB := Lib.hid hb1
  clear ho hb1 E1
  go_wp2
  go_loopw [6] (fun i wr => ∃ k : Nat, k ≤ l.length ∧ i = .int .i64 k ∧ OwnR wr w.heap.size (.slice (some ⟨g, 0, none⟩) l.length cap) (halfTo l k) ∧ Below w.heap.size w wr ∧ g < wr.heap.size) (fun i _ => l.length - (intOf i).toNat)
  case atStart => exact ⟨0, Nat.zero_le _, rfl, by have := HO.out; unfold halfTo; simpa using this, HB.out, hgl⟩
  case round =>
    obtain ⟨k, hk, rfl, hown, hbel, hgr⟩ := hrel
    by_cases hlt : k < l.length
    · have hn := (halfTo_length l k hk).symm
      obtain ⟨x1, d1, f1, f2⟩ := hown.cells (k := k) hn (by omega)
      rw [halfTo_at hlt] at x1 d1
      have hx := M1.out _ (getD_mem2 hlt)
      have T := Lib.hid (halfTo_set hlt)
      have hi0' : (0 : Int) ≤ (k : Int) := Int.natCast_nonneg _
      have hi2 : (k : Int) < (l.length : Int) := by omega
      have HN := Lib.hid hn
      clear hn
      generalize l.getD k (0, 0) = xd at *
      obtain ⟨n, d⟩ := xd
      simp only at x1 d1 hx T
      have RQ := Lib.hid (fun W => rRatio_any n (2 * d) W (by omega) (by omega) (by omega) (by omega))
      have HO2 := Lib.hid hown
      have HB2 := Lib.hid hbel
      have e1 : IntKind.i64.wrap (2 * d) = 2 * d := IntWalk.i64_in _ (by omega)
      clear hown hbel
      go_wp2_with fail
      go_region_with ((go_at_call 56; refine (RQ.out _).mono ?_; rintro e w2 ⟨rfl, hb2⟩; have hownW := HO2.out.drew.below hb2; obtain ⟨x2, d2, g1, g2⟩ := hownW.cells (k := k) HN.out (by have := HN.out; omega); have hbW := below_trans HB2.out.drew hb2; unfold ratV))
      all_goals
        have O3 := Lib.hid (hownW.set HN.out (k := k) (by have := HN.out; omega) (rn n (2 * d), rd n (2 * d)))
        have hgw : g < w2.heap.size := by have := hb2.size; rw [show wr.drew.heap.size = wr.heap.size from rfl] at this; omega
        have B3 := Lib.hid ((hbW.setCell (p := ⟨g, k * 2, none⟩) hg (.int .i64 (rn n (2 * d)))).setCell (p := ⟨g, k * 2 + 1, none⟩) hg (.int .i64 (rd n (2 * d))))
        have T2 : Hid ((halfTo l k).set k (rn n (2 * d), rd n (2 * d)) = halfTo l (k + 1)) := T
        clear hownW hbW hb2 x1 d1 f1 f2 x2 d2 g1 g2 e1
        go_wp2
        go_roundw
        case rel => exact ⟨k + 1, by omega, by go_num, (by rw [← T2.out]; exact O3.out), B3.out, by simpa using hgw⟩
        case measure => simp [intOf]; omega
    · have e : k = l.length := by omega
      subst e
      have O : Hid (OwnR wr w.heap.size (.slice (some ⟨g, 0, none⟩) l.length cap) (halfL l)) := Lib.hid (by rwa [halfTo_end] at hown)
      have B := Lib.hid hbel
      clear hown hbel
      go_wp2
      go_ret
      exact ⟨_, rfl, O.out, B.out⟩

end Go.Proofs.Ytaakefjblldccaa
