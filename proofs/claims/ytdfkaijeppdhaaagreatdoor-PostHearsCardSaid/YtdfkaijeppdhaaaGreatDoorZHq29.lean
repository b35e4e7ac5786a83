/- Texts of this claim, laid together: FdR, FdWat2. -/
import Derived.Test.YtdfkaijeppdhaaaGreatDoorZHq28
import Derived.Laws.EntriesVeiled
import Derived.Deep.RegionHeld3
import Derived.Deep.AppendLies
import Derived.Test.YtdfkaijeppdhaaaGreatDoorZHq25

/- Texts of this claim, laid together: P3, Q, R. -/

/- Contracts: awards by a rule, of the program. -/
namespace Go.Proofs.YtdfkaijeppdhaaaGreatDoor.Fd
open Go.RowKit
theorem Cvl.ne {c : List Int} (h : Cvl c) : c ≠ [] := fun e => by have := h.lo; rw [e] at this; simp at this
theorem Cvl.pos {c : List Int} (h : Cvl c) : ∀ x ∈ c, 0 ≤ x := fun x hx => (h.holds x hx).1
theorem Cvl.tot {c : List Int} (h : Cvl c) : 0 ≤ tot c ∧ tot c ≤ 8000 := by
  have ht := tot_bd h c.length (Nat.le_refl _)
  rw [List.take_length] at ht
  have := h.hi
  omega
theorem Cvl.shr {c : List Int} (h : Cvl c) {e : Int} (r : Int) (he : 0 ≤ e) (hs : e ≤ Go.Proofs.YtdfkaijeppdhaaaGreatDoor.Fd.tot c) : ∃ f Q, Shr c e (shareL c e r) f Q := share_shr h.ne h.pos h.hi h.tot.2 he hs

theorem map_red_mod {c : List Int} {f : Int → Int} {Q B : Int} (hQ : 1 ≤ Q) (h : ∀ x ∈ c, 0 ≤ f x ∧ f x ≤ B) : ∀ y ∈ c.map (fun x => red (f x) Q), 0 ≤ y.1 ∧ y.1 ≤ B ∧ 1 ≤ y.2 ∧ y.2 ≤ Q := fun y hy => by
  obtain ⟨x, hx, rfl⟩ := List.mem_map.1 hy
  obtain ⟨h1, h2⟩ := h x hx
  have a := red_pos (n := f x) hQ h1
  have b := red_bd (n := f x) (d := Q) (B := B) hQ (by omega) h2
  omega
theorem eqW_bd {c : List Int} (h : Cvl c) {e : Int} (he : 0 ≤ e) (hs : e ≤ tot c) : ∀ y ∈ eqW c e, 0 ≤ y.1 ∧ y.1 ≤ 9000 ∧ 1 ≤ y.2 ∧ y.2 ≤ 9 := by
  obtain ⟨p, q, hl, hp, hq, e1⟩ := eqW_shr h.ne h.pos h.hi he hs
  rw [e1]
  intro y hy
  have := map_red_mod (B := 9000) hl.hq (fun x hx => by
    have c1 := cap_facts hl.hq hp (h.holds x hx).1 (Int.le_refl x)
    have : x * q ≤ 1000 * 9 := Int.mul_le_mul (h.holds x hx).2 hq (by have := hl.hq; omega) (by omega)
    omega) y hy
  omega
theorem half_bd {l : List Rat2} (h : ∀ y ∈ l, 0 ≤ y.1 ∧ y.1 ≤ 9000 ∧ 1 ≤ y.2 ∧ y.2 ≤ 9) : ∀ y ∈ halfL l, 0 ≤ y.1 ∧ y.1 ≤ 9000 ∧ 1 ≤ y.2 ∧ y.2 ≤ 18 := fun y hy => by
  obtain ⟨x, hx, rfl⟩ := List.mem_map.1 hy
  have := h x hx
  have a := red_pos (n := x.1) (d := 2 * x.2) (by omega) (by omega)
  have b := red_bd (n := x.1) (d := 2 * x.2) (B := 9000) (by omega) (by omega) (by omega)
  omega
theorem mod_of {l : List Rat2} {A B : Int} (h : ∀ y ∈ l, 0 ≤ y.1 ∧ y.1 ≤ A ∧ 1 ≤ y.2 ∧ y.2 ≤ B) (hA : A ≤ 1000000000) (hB : B ≤ 1000000) : Mod l := fun y hy => by
  have := h y hy; omega
theorem eqW_length (c : List Int) (e : Int) : (eqW c e).length = c.length := by unfold eqW levA; rw [List.length_map]
theorem halfL_length (l : List Rat2) : (halfL l).length = l.length := by unfold halfL; rw [List.length_map]

theorem GivesR.keep {l : List Rat2} {w w1 : World} {e : Ending} {w' : World} (hb : Below w.heap.size w w1) (h : GivesR l w1 e w') : GivesR l w e w' := by
  obtain ⟨v, rfl, ho, hb2⟩ := h
  exact ⟨v, rfl, ho.base hb.size, below_trans hb hb2⟩


set_option maxHeartbeats 1000000 in
theorem losses_any (v : Value) (c : List Int) (e0 : Int) (w : World) (hv : IntsAt w v c) (hc : Cvl c) (he : 0 ≤ e0) (hes : e0 ≤ tot c) :
    Calls Tryz.prog 302 #[v, .int .i64 e0] w (GivesR (lessL c (eqW c (tot c - e0))) w) := by
  have HV := Lib.hid hv
  have HH := Lib.hid hc
  have ht := hc.tot
  have E1 := Lib.hid (equal_any v c (tot c - e0) w hv hc (by omega) (by omega))
  have M1 := Lib.hid (eqW_bd hc (e := tot c - e0) (by omega) (by omega))
  have L1 := Lib.hid (eqW_length c (tot c - e0))
  have hhi := hc.hi
  clear hv hc
  have l8 : (eqW c (tot c - e0)).length ≤ 9223372036854775807 := by rw [L1.out]; omega
  have S := Lib.hid (sum_any v c w HV.out HH.out)
  generalize hg : eqW c (tot c - e0) = E at *
  have HE := Lib.hid hg
  clear hg
  generalize tot c = t at *
  go_enter Tryz.func302, Tryz.ntmps302
  go_wp2_with fail
  refine (S.out).mono ?_
  rintro e w' ⟨rfl, rfl⟩
  go_wp2_with fail
  refine E1.out.mono ?_
  rintro e w1 ⟨v1, rfl, ho, hb1⟩
  go_wp2_with fail
  refine (less_any v v1 c E w1 (HV.out.below hb1) (ho.at l8) HH.out L1.out (mod_of M1.out (by omega) (by omega))).mono ?_
  rintro e w2 ⟨v2, rfl, ho2, hb2⟩
  have O := Lib.hid (ho2.base hb1.size)
  have B := Lib.hid (below_trans hb1 hb2)
  clear ho ho2 hb1 hb2
  go_wp2
  go_ret
  exact ⟨_, rfl, O.out, B.out⟩

/-- The awards by the old rule. -/
def oldL (c : List Int) (e : Int) : List Rat2 := if 2 * e > tot c then lessL c (halfL (eqW c (2 * (tot c - e)))) else halfL (eqW c (2 * e))

set_option maxHeartbeats 1000000 in
theorem old_any (v : Value) (c : List Int) (e0 : Int) (w : World) (hv : IntsAt w v c) (hc : Cvl c) (he : 0 ≤ e0) (hes : e0 ≤ tot c) :
    Calls Tryz.prog 303 #[v, .int .i64 e0] w (GivesR (oldL c e0) w) := by
  have HV := Lib.hid hv
  have HH := Lib.hid hc
  have ht := hc.tot
  have hhi := hc.hi
  have S := Lib.hid (sum_any v c w hv hc)
  by_cases h2 : tot c < 2 * e0
  · have OL : Hid (oldL c e0 = lessL c (halfL (eqW c (2 * (tot c - e0))))) := Lib.hid (by unfold oldL; rw [if_pos h2])
    have E1 := Lib.hid (equal_any v c (2 * (tot c - e0)) w hv hc (by omega) (by omega))
    have M1 := Lib.hid (eqW_bd hc (e := 2 * (tot c - e0)) (by omega) (by omega))
    have L1 := Lib.hid (eqW_length c (2 * (tot c - e0)))
    have l8 : (eqW c (2 * (tot c - e0))).length ≤ 8 := by rw [L1.out]; omega
    rw [OL.out]
    clear OL hv hc
    generalize hg : eqW c (2 * (tot c - e0)) = E at *
    clear hg
    have M2 := Lib.hid (half_bd M1.out)
    have L2 : Hid ((halfL E).length = c.length) := Lib.hid (by rw [halfL_length, L1.out])
    have l9 : (halfL E).length ≤ 9223372036854775807 := by rw [L2.out]; omega
    generalize tot c = t at *
    go_enter Tryz.func303, Tryz.ntmps303
    go_wp2_with fail
    refine (S.out).mono ?_
    rintro e w' ⟨rfl, rfl⟩
    go_wp2_with fail
    refine E1.out.mono ?_
    rintro e w1 ⟨v1, rfl, ho, hb1⟩
    go_wp2_with fail
    refine (half_any v1 E w1 (ho.at (by omega)) l8 (mod_of M1.out (by omega) (by omega))).mono ?_
    rintro e w2 ⟨v2, rfl, ho2, hb2'⟩
    have hb2 := below_trans hb1 hb2'
    go_wp2_with fail
    refine (less_any v v2 c (halfL E) w2 (HV.out.below hb2) (ho2.at l9) HH.out L2.out (mod_of M2.out (by omega) (by omega))).mono ?_
    rintro e w3 ⟨v3, rfl, ho3, hb3⟩
    have O := Lib.hid (ho3.base hb2.size)
    have B := Lib.hid (below_trans hb2 hb3)
    clear ho ho2 ho3 hb1 hb2 hb2' hb3
    go_wp2
    go_ret
    exact ⟨_, rfl, O.out, B.out⟩
  · have OL : Hid (oldL c e0 = halfL (eqW c (2 * e0))) := Lib.hid (by unfold oldL; rw [if_neg h2])
    have E1 := Lib.hid (equal_any v c (2 * e0) w hv hc (by omega) (by omega))
    have M1 := Lib.hid (eqW_bd hc (e := 2 * e0) (by omega) (by omega))
    have L1 := Lib.hid (eqW_length c (2 * e0))
    have l8 : (eqW c (2 * e0)).length ≤ 8 := by rw [L1.out]; omega
    rw [OL.out]
    clear OL hv hc
    generalize hg : eqW c (2 * e0) = E at *
    clear hg
    generalize tot c = t at *
    go_enter Tryz.func303, Tryz.ntmps303
    go_wp2_with fail
    refine (S.out).mono ?_
    rintro e w' ⟨rfl, rfl⟩
    go_wp2_with fail
    refine E1.out.mono ?_
    rintro e w1 ⟨v1, rfl, ho, hb1⟩
    go_wp2_with fail
    refine (half_any v1 E w1 (ho.at (by omega)) l8 (mod_of M1.out (by omega) (by omega))).mono ?_
    rintro e w2 ⟨v2, rfl, ho2, hb2⟩
    have O := Lib.hid (ho2.base hb1.size)
    have B := Lib.hid (below_trans hb1 hb2)
    clear ho ho2 hb1 hb2
    go_wp2
    go_ret
    exact ⟨_, rfl, O.out, B.out⟩


set_option maxHeartbeats 1000000 in
theorem ruled_no (n : Int) (w : World) (h : betw 1 n 4 = false) :
    Calls Tryz.prog 296 #[.int .i64 n] w fun e w' => (∃ v, e = .returned (.tuple #[v, .bool false])) ∧ Below w.heap.size w w' := by
  have H := Lib.hid h
  clear h
  go_enter Tryz.func296, Tryz.ntmps296
  go_wp2_with fail
  refine (between_any _ _ _ _).mono ?_
  rintro e w' ⟨rfl, rfl⟩
  rw [H.out]
  go_wp2
  go_ret2
  exact ⟨⟨_, rfl⟩, (Below.refl _ _).alloc (Nat.le_refl _) _⟩

set_option maxHeartbeats 1000000 in
theorem ruled_1 (w : World) :
    Calls Tryz.prog 296 #[.int .i64 1] w fun e w' => e = .returned (.tuple #[.func (.func 300) #[] #[], .bool true]) ∧ Below w.heap.size w w' := by
  have H : Hid (betw 1 1 4 = true) := Lib.hid rfl
  go_enter Tryz.func296, Tryz.ntmps296
  go_wp2_with fail
  refine (between_any _ _ _ _).mono ?_
  rintro e w' ⟨rfl, rfl⟩
  rw [H.out]
  go_wp2
  go_ret2
  exact ⟨rfl, (Below.refl _ _).alloc (Nat.le_refl _) _⟩

set_option maxHeartbeats 1000000 in
theorem ruled_2 (w : World) :
    Calls Tryz.prog 296 #[.int .i64 2] w fun e w' => e = .returned (.tuple #[.func (.func 301) #[] #[], .bool true]) ∧ Below w.heap.size w w' := by
  have H : Hid (betw 1 2 4 = true) := Lib.hid rfl
  go_enter Tryz.func296, Tryz.ntmps296
  go_wp2_with fail
  refine (between_any _ _ _ _).mono ?_
  rintro e w' ⟨rfl, rfl⟩
  rw [H.out]
  go_wp2
  go_ret2
  exact ⟨rfl, (Below.refl _ _).alloc (Nat.le_refl _) _⟩

set_option maxHeartbeats 1000000 in
theorem ruled_3 (w : World) :
    Calls Tryz.prog 296 #[.int .i64 3] w fun e w' => e = .returned (.tuple #[.func (.func 302) #[] #[], .bool true]) ∧ Below w.heap.size w w' := by
  have H : Hid (betw 1 3 4 = true) := Lib.hid rfl
  go_enter Tryz.func296, Tryz.ntmps296
  go_wp2_with fail
  refine (between_any _ _ _ _).mono ?_
  rintro e w' ⟨rfl, rfl⟩
  rw [H.out]
  go_wp2
  go_ret2
  exact ⟨rfl, (Below.refl _ _).alloc (Nat.le_refl _) _⟩

set_option maxHeartbeats 1000000 in
theorem ruled_4 (w : World) :
    Calls Tryz.prog 296 #[.int .i64 4] w fun e w' => e = .returned (.tuple #[.func (.func 303) #[] #[], .bool true]) ∧ Below w.heap.size w w' := by
  have H : Hid (betw 1 4 4 = true) := Lib.hid rfl
  go_enter Tryz.func296, Tryz.ntmps296
  go_wp2_with fail
  refine (between_any _ _ _ _).mono ?_
  rintro e w' ⟨rfl, rfl⟩
  rw [H.out]
  go_wp2
  go_ret2
  exact ⟨rfl, (Below.refl _ _).alloc (Nat.le_refl _) _⟩

/-- The first error of claims, an estate and a rule; the awards. -/
def shareE (c : List Int) (n r : Int) : Int := if askE c n = 0 then (if betw 1 r 4 then 0 else 2) else askE c n
def shareV (c : List Int) (n r : Int) : List Rat2 := if shareE c n r = 0 then shareL c n r else []
def GivesS (c : List Int) (n r : Int) (w : World) (e : Ending) (w' : World) : Prop :=
  ∃ v, e = .returned (.tuple #[v, .int .i64 (shareE c n r)]) ∧ OwnR w' w.heap.size v (shareV c n r) ∧ Below w.heap.size w w'

theorem askE_ok2 {c : List Int} {n : Int} (h : askE c n = 0) : Cvl c ∧ 0 ≤ n ∧ n ≤ tot c := by
  unfold askE at h
  split at h
  · rename_i h1
    split at h
    · rename_i h2
      have hb := (betw_iff _ _ _).1 h2
      exact ⟨(cvl_iff c).1 h1, by omega, by omega⟩
    · omega
  · omega

theorem shareE_ok {c : List Int} {n r : Int} (h : shareE c n r = 0) : askE c n = 0 ∧ 1 ≤ r ∧ r ≤ 4 := by
  unfold shareE at h
  split at h
  · split at h
    · rename_i h1 h2
      have hb := (betw_iff _ _ _).1 h2
      exact ⟨h1, by omega, by omega⟩
    · omega
  · rename_i h1
    exact absurd h h1


set_option maxHeartbeats 2000000 in
theorem shared_any (v : Value) (c : List Int) (n r : Int) (w : World) (hv : IntsAt w v c) :
    Calls Tryz.prog 290 #[v, .int .i64 n, .int .i64 r] w (GivesS c n r w) := by
  have HV := Lib.hid hv
  clear hv
  by_cases h0 : askE c n = 0
  · obtain ⟨hc, h1, h2⟩ := askE_ok2 h0
    have A := Lib.hid h0
    have HH := Lib.hid hc
    have h3 := hc.tot
    clear h0 hc
    cases hr : betw 1 r 4 with
    | false =>
      have R := Lib.hid hr
      have E0 : Hid (shareE c n r = 2) := Lib.hid (by unfold shareE; rw [if_pos A.out, hr]; rfl)
      have V0 : Hid (shareV c n r = []) := Lib.hid (by unfold shareV; rw [E0.out]; rfl)
      clear hr
      go_enter Tryz.func290, Tryz.ntmps290
      go_wp2_with fail
      refine (checked_any _ _ _ _ HV.out).mono ?_
      rintro e w' ⟨rfl, rfl⟩
      rw [A.out]
      go_wp2_with fail
      refine (ruled_no _ _ R.out).mono ?_
      rintro e w1 ⟨⟨v1, rfl⟩, hb1⟩
      go_wp2
      go_ret2
      exact ⟨.slice none 0 0, by rw [E0.out]; rfl, by rw [V0.out]; exact OwnR.nil _ _, hb1⟩
    | true =>
      have hb := (betw_iff _ _ _).1 hr
      have h4 : r = 1 ∨ r = 2 ∨ r = 3 ∨ r = 4 := by omega
      clear hr hb
      rcases h4 with rfl | rfl | rfl | rfl
      · have h5 : n ≤ 8000 := by omega
        have PC := fun w1 (q : IntsAt w1 v c) => proportion_any v c n w1 q HH.out h1 h5
        have E0 : Hid (shareE c n 1 = 0) := Lib.hid (by unfold shareE; rw [if_pos A.out]; rfl)
        have V0 : Hid (shareV c n 1 = propL c n) := Lib.hid (by unfold shareV; rw [if_pos E0.out]; rfl)
        have PH := Lib.hid PC
        clear PC
        go_enter Tryz.func290, Tryz.ntmps290
        go_wp2_with fail
        refine (checked_any _ _ _ _ HV.out).mono ?_
        rintro e w' ⟨rfl, rfl⟩
        rw [A.out]
        go_wp2_with fail
        refine (ruled_1 _).mono ?_
        rintro e w1 ⟨rfl, hb1⟩
        go_wp2_with fail
        refine (PH.out w1 (HV.out.below hb1)).mono ?_
        rintro e w2 ⟨v2, rfl, ho2, hb2⟩
        have O := Lib.hid (ho2.base hb1.size)
        have B := Lib.hid (below_trans hb1 hb2)
        clear ho2 hb1 hb2
        go_wp2
        go_ret2
        exact ⟨_, by rw [E0.out]; rfl, by rw [V0.out]; exact O.out, B.out⟩
      · have E0 : Hid (shareE c n 2 = 0) := Lib.hid (by unfold shareE; rw [if_pos A.out]; rfl)
        have V0 : Hid (shareV c n 2 = eqW c n) := Lib.hid (by unfold shareV; rw [if_pos E0.out]; rfl)
        go_enter Tryz.func290, Tryz.ntmps290
        go_wp2_with fail
        refine (checked_any _ _ _ _ HV.out).mono ?_
        rintro e w' ⟨rfl, rfl⟩
        rw [A.out]
        go_wp2_with fail
        refine (ruled_2 _).mono ?_
        rintro e w1 ⟨rfl, hb1⟩
        go_wp2_with fail
        refine (equal_any v c n w1 (HV.out.below hb1) HH.out h1 h2).mono ?_
        rintro e w2 ⟨v2, rfl, ho2, hb2⟩
        have O := Lib.hid (ho2.base hb1.size)
        have B := Lib.hid (below_trans hb1 hb2)
        clear ho2 hb1 hb2
        go_wp2
        go_ret2
        exact ⟨_, by rw [E0.out]; rfl, by rw [V0.out]; exact O.out, B.out⟩
      · have E0 : Hid (shareE c n 3 = 0) := Lib.hid (by unfold shareE; rw [if_pos A.out]; rfl)
        have V0 : Hid (shareV c n 3 = lessL c (eqW c (tot c - n))) := Lib.hid (by unfold shareV; rw [if_pos E0.out]; rfl)
        go_enter Tryz.func290, Tryz.ntmps290
        go_wp2_with fail
        refine (checked_any _ _ _ _ HV.out).mono ?_
        rintro e w' ⟨rfl, rfl⟩
        rw [A.out]
        go_wp2_with fail
        refine (ruled_3 _).mono ?_
        rintro e w1 ⟨rfl, hb1⟩
        go_wp2_with fail
        refine (losses_any v c n w1 (HV.out.below hb1) HH.out h1 h2).mono ?_
        rintro e w2 ⟨v2, rfl, ho2, hb2⟩
        have O := Lib.hid (ho2.base hb1.size)
        have B := Lib.hid (below_trans hb1 hb2)
        clear ho2 hb1 hb2
        go_wp2
        go_ret2
        exact ⟨_, by rw [E0.out]; rfl, by rw [V0.out]; exact O.out, B.out⟩
      · have E0 : Hid (shareE c n 4 = 0) := Lib.hid (by unfold shareE; rw [if_pos A.out]; rfl)
        have V0 : Hid (shareV c n 4 = oldL c n) := Lib.hid (by unfold shareV; rw [if_pos E0.out]; rfl)
        go_enter Tryz.func290, Tryz.ntmps290
        go_wp2_with fail
        refine (checked_any _ _ _ _ HV.out).mono ?_
        rintro e w' ⟨rfl, rfl⟩
        rw [A.out]
        go_wp2_with fail
        refine (ruled_4 _).mono ?_
        rintro e w1 ⟨rfl, hb1⟩
        go_wp2_with fail
        refine (old_any v c n w1 (HV.out.below hb1) HH.out h1 h2).mono ?_
        rintro e w2 ⟨v2, rfl, ho2, hb2⟩
        have O := Lib.hid (ho2.base hb1.size)
        have B := Lib.hid (below_trans hb1 hb2)
        clear ho2 hb1 hb2
        go_wp2
        go_ret2
        exact ⟨_, by rw [E0.out]; rfl, by rw [V0.out]; exact O.out, B.out⟩
  · have E0 : Hid (shareE c n r = askE c n) := Lib.hid (by unfold shareE; rw [if_neg h0])
    have V0 : Hid (shareV c n r = []) := Lib.hid (by unfold shareV; rw [E0.out, if_neg h0])
    have hb : (askE c n != 0) = true := by rw [bne_iff_ne]; exact h0
    clear h0
    go_enter Tryz.func290, Tryz.ntmps290
    go_wp2_with fail
    refine (checked_any _ _ _ _ HV.out).mono ?_
    rintro e w' ⟨rfl, rfl⟩
    go_wp2
    go_ret2
    exact ⟨.slice none 0 0, by rw [E0.out]; rfl, by rw [V0.out]; exact OwnR.nil _ _, Below.refl _ _⟩

end Go.Proofs.YtdfkaijeppdhaaaGreatDoor.Fd
/- Contracts: the reference's claims less awards. -/
namespace Go.Proofs.YtdfkaijeppdhaaaGreatDoor.Fd
open Go.RowKit
theorem OwnR.drew {w : World} {B : Nat} {v : Value} {l : List Rat2} (h : OwnR w B v l) : OwnR w.drew B v l := own_below h ((Below.refl _ w).drew)

end Go.Proofs.YtdfkaijeppdhaaaGreatDoor.Fd
/- Contracts: the reference's halves. -/
namespace Go.Proofs.YtdfkaijeppdhaaaGreatDoor.Fd
open Go.RowKit
theorem flatR_set : ∀ (l : List Rat2) (k : Nat) (x : Rat2), k < l.length → flatR (l.set k x) = ((flatR l).set (k * 2) (.int .i64 x.1)).set (k * 2 + 1) (.int .i64 x.2)
  | d :: l, 0, x, _ => by simp [flatR, ratC]
  | d :: l, k + 1, x, h => by
    have ih := flatR_set l k x (by simpa using h)
    rw [show (k + 1) * 2 = k * 2 + 2 by omega, show k * 2 + 2 + 1 = (k * 2 + 1) + 2 by omega]
    simp only [flatR, List.flatMap_cons, List.set_cons_succ, ratC] at ih ⊢
    simp only [List.cons_append, List.nil_append, List.set_cons_succ]
    rw [ih]

theorem OwnR.set {w : World} {B g cap : Nat} {l : List Rat2} {n : Nat} (h : OwnR w B (.slice (some ⟨g, 0, none⟩) n cap) l) (hn : n = l.length) {k : Nat} (hk : k < l.length) (x : Rat2) :
    OwnR ((w.setCell ⟨g, k * 2, none⟩ (.int .i64 x.1)).setCell ⟨g, k * 2 + 1, none⟩ (.int .i64 x.2)) B (.slice (some ⟨g, 0, none⟩) n cap) (l.set k x) := by
  subst hn
  unfold OwnR at h ⊢
  have h1 := (World.ownsRow.stored h (k * 2) (.int .i64 x.1)).1
  have h2 := (World.ownsRow.stored h1 (k * 2 + 1) (.int .i64 x.2)).1
  rw [List.length_set, flatR_set l k x hk]
  exact h2

/-- An own list that is not empty. -/
theorem OwnR.split {w : World} {B : Nat} {v : Value} {l : List Rat2} (h : OwnR w B v l) (h0 : 0 < l.length) : ∃ g cap, v = .slice (some ⟨g, 0, none⟩) l.length cap ∧ B ≤ g ∧ g < w.heap.size := by
  rcases h.2 with ⟨rfl, hn⟩ | ⟨g, cap, cur, rfl, hg, hh, _⟩
  · omega
  · exact ⟨g, cap, rfl, hg, (Array.getElem?_eq_some_iff.1 hh).1⟩
theorem OwnR.cells {w : World} {B g cap n : Nat} {l : List Rat2} (h : OwnR w B (.slice (some ⟨g, 0, none⟩) n cap) l) (hn : n = l.length) {k : Nat} (hk : k < l.length) :
    w.cell? ⟨g, k * 2, none⟩ = some (.int .i64 (l.getD k (0, 0)).1) ∧ w.cell? ⟨g, k * 2 + 1, none⟩ = some (.int .i64 (l.getD k (0, 0)).2) ∧ w.frozen? ⟨g, k * 2, none⟩ = false ∧ w.frozen? ⟨g, k * 2 + 1, none⟩ = false := by
  subst hn
  obtain ⟨e1, e2⟩ := flatR_at l k hk
  exact ⟨(World.ownsRow.cellAt h _ (by omega)).trans e1, (World.ownsRow.cellAt h _ (by omega)).trans e2, World.ownsRow.frozenAt h _, World.ownsRow.frozenAt h _⟩

end Go.Proofs.YtdfkaijeppdhaaaGreatDoor.Fd

/- Plain mathematics: equal awards by paying whoever claims at most an even share. -/
namespace Go.Proofs.YtdfkaijeppdhaaaGreatDoor.Fd
def cntZ : List Rat2 → Int
  | [] => 0
  | x :: l => (if x.2 = 0 then 1 else 0) + cntZ l
def sumN : List Rat2 → Int
  | [] => 0
  | x :: l => x.1 + sumN l

theorem cntZ_nonneg : ∀ o, 0 ≤ cntZ o
  | [] => by simp [cntZ]
  | x :: l => by have := cntZ_nonneg l; unfold cntZ; split <;> omega
theorem cntZ_pos : ∀ (o : List Rat2) (k : Nat), k < o.length → (o.getD k (0, 0)).2 = 0 → 1 ≤ cntZ o
  | x :: l, 0, _, h => by
    have := cntZ_nonneg l
    rw [List.getD_cons_zero] at h
    unfold cntZ; rw [if_pos h]; omega
  | x :: l, k + 1, hk, h => by
    have := cntZ_pos l k (by simpa using hk) (by simpa using h)
    unfold cntZ; split <;> omega
theorem sumN_zero : ∀ n, sumN (List.replicate n ((0, 0) : Rat2)) = 0
  | 0 => rfl
  | n + 1 => by simp only [List.replicate_succ, sumN]; rw [sumN_zero n]; rfl
theorem cntZ_zero : ∀ n : Nat, cntZ (List.replicate n ((0, 0) : Rat2)) = n
  | 0 => rfl
  | n + 1 => by simp only [List.replicate_succ, cntZ]; rw [cntZ_zero n]; simp; omega

/-- Who is paid, what is left, and for how many. -/
structure RS (c : List Int) (e : Int) (o : List Rat2) (rest left : Int) : Prop where
  len : o.length = c.length
  each : ∀ k, k < c.length → o.getD k (0, 0) = (0, 0) ∨ o.getD k (0, 0) = (c.getD k 0, 1)
  rs : rest = e - sumN o
  lf : left = cntZ o
  le : ∀ k, k < c.length → (o.getD k (0, 0)).2 ≠ 0 → c.getD k 0 * left ≤ rest
  r0 : 0 ≤ rest

theorem RS.start (c : List Int) {e : Int} (he : 0 ≤ e) : RS c e (List.replicate c.length (0, 0)) e c.length where
  len := by simp
  each := fun k hk => .inl (by simp [List.getD_eq_getElem?_getD, hk])
  rs := by rw [sumN_zero]; omega
  lf := (cntZ_zero _).symm
  le := fun k hk h => absurd (by simp [List.getD_eq_getElem?_getD, hk]) h
  r0 := he

/-- Who is unpaid gets p / q. -/
def fillZ (p q : Int) (x : Rat2) : Rat2 := if x.2 = 0 then red p q else x

theorem lev_sum (p q : Int) : ∀ (c : List Int) (o : List Rat2), o.length = c.length →
    (∀ k, k < c.length → o.getD k (0, 0) = (0, 0) ∧ p ≤ c.getD k 0 * q ∨ o.getD k (0, 0) = (c.getD k 0, 1) ∧ c.getD k 0 * q ≤ p) → sumf (cap p q) c = sumN o * q + cntZ o * p
  | [], [], _, _ => by simp [sumf, sumN, cntZ]
  | x :: c, y :: o, hl, h => by
    have ih := lev_sum p q c o (by simpa using hl) (fun k hk => by have := h (k + 1) (by simpa using hk); simpa using this)
    have h0 := h 0 (by simp)
    simp only [List.getD_cons_zero] at h0
    simp only [sumf, sumN, cntZ]
    rw [ih]
    rcases h0 with ⟨rfl, h1⟩ | ⟨rfl, h1⟩
    · simp only [cap, if_true]
      rw [Int.min_eq_right h1, Int.add_mul, Int.add_mul]; omega
    · simp only [cap]
      rw [Int.min_eq_left h1, Int.add_mul, Int.add_mul, if_neg (by omega)]; omega

theorem sumN_paid : ∀ (c : List Int) (o : List Rat2), o.length = c.length → (∀ k, k < c.length → o.getD k (0, 0) = (c.getD k 0, 1)) → o = c.map (fun x => (x, 1)) ∧ sumN o = sumf id c
  | [], [], _, _ => by simp [sumf, sumN]
  | x :: c, y :: o, hl, h => by
    obtain ⟨ih1, ih2⟩ := sumN_paid c o (by simpa using hl) (fun k hk => by have := h (k + 1) (by simpa using hk); simpa using this)
    have h0 := h 0 (by simp)
    simp only [List.getD_cons_zero] at h0
    subst h0
    simp only [sumf, sumN, List.map_cons, id]
    rw [ih2]
    exact ⟨by rw [← ih1], rfl⟩

theorem fill_eq (p q : Int) (hq : 1 ≤ q) : ∀ (c : List Int) (o : List Rat2), o.length = c.length →
    (∀ k, k < c.length → o.getD k (0, 0) = (0, 0) ∧ p ≤ c.getD k 0 * q ∨ o.getD k (0, 0) = (c.getD k 0, 1) ∧ c.getD k 0 * q ≤ p) → o.map (fillZ p q) = levA c p q
  | [], [], _, _ => by simp [levA]
  | x :: c, y :: o, hl, h => by
    have ih := fill_eq p q hq c o (by simpa using hl) (fun k hk => by have := h (k + 1) (by simpa using hk); simpa using this)
    have h0 := h 0 (by simp)
    simp only [List.getD_cons_zero] at h0
    simp only [levA, List.map_cons] at ih ⊢
    rw [ih]
    congr 1
    rcases h0 with ⟨rfl, h1⟩ | ⟨rfl, h1⟩
    · simp only [fillZ, cap, if_true]
      rw [Int.min_eq_right h1]
    · simp only [fillZ, cap]
      rw [Int.min_eq_left h1, red_whole x q hq, if_neg (by omega)]

theorem RS.fin {c : List Int} {e : Int} {o : List Rat2} {rest left : Int} (h : RS c e o rest left) (h0 : c ≠ []) (hc : ∀ x ∈ c, 0 ≤ x ∧ x ≤ 1000) (hs : e ≤ tot c)
    (hn : ∀ k, k < c.length → (o.getD k (0, 0)).2 = 0 → rest < c.getD k 0 * left) : o.map (fillZ rest left) = eqW c e := by
  have hl0 := cntZ_nonneg o
  rw [← h.lf] at hl0
  by_cases hl : 1 ≤ left
  · have key : ∀ k, k < c.length → o.getD k (0, 0) = (0, 0) ∧ rest ≤ c.getD k 0 * left ∨ o.getD k (0, 0) = (c.getD k 0, 1) ∧ c.getD k 0 * left ≤ rest := fun k hk => by
      rcases h.each k hk with h1 | h1
      · have := hn k hk (by rw [h1])
        exact .inl ⟨h1, by omega⟩
      · exact .inr ⟨h1, h.le k hk (by rw [h1]; simp)⟩
    rw [fill_eq rest left hl c o h.len key]
    refine eqW_of h0 hs ⟨hl, ?_⟩
    rw [lev_sum rest left c o h.len key, ← h.lf]
    have : sumN o = e - rest := by have := h.rs; omega
    rw [this, Int.sub_mul, Int.mul_comm rest left]; omega
  · have hl1 : left = 0 := by omega
    have key : ∀ k, k < c.length → o.getD k (0, 0) = (c.getD k 0, 1) := fun k hk => by
      rcases h.each k hk with h1 | h1
      · have := cntZ_pos o k (by have := h.len; omega) (by rw [h1])
        have := h.lf
        omega
      · exact h1
    obtain ⟨e1, e2⟩ := sumN_paid c o h.len key
    rw [← tot_sumf] at e2
    have he : e = tot c := by have := h.rs; have := h.r0; omega
    have hcap : ∀ x ∈ c, cap 1000 1 x = x := fun x hx => by unfold cap; have := (hc x hx).2; omega
    rw [← eqW_of h0 hs (p := 1000) (q := 1) ⟨by omega, by rw [sumf_congr (g := id) (fun x hx => hcap x hx), ← tot_sumf]; omega⟩, e1]
    unfold levA
    rw [List.map_map]
    refine List.map_congr_left fun x hx => ?_
    simp only [Function.comp, fillZ]
    rw [if_neg (by omega), hcap x hx, red_one]

end Go.Proofs.YtdfkaijeppdhaaaGreatDoor.Fd
