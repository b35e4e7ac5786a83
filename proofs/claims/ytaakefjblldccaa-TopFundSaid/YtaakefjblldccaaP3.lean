/- Contracts: awards by a rule, of the program. -/
import Derived.Test.YtaakefjblldccaaP2
import Derived.Laws.EntriesVeiled
namespace Go.Proofs.Ytaakefjblldccaa
open Go.RowKit

theorem Cvl.ne {c : List Int} (h : Cvl c) : c ≠ [] := fun e => by have := h.lo; rw [e] at this; simp at this
theorem Cvl.pos {c : List Int} (h : Cvl c) : ∀ x ∈ c, 0 ≤ x := fun x hx => (h.holds x hx).1
theorem Cvl.tot {c : List Int} (h : Cvl c) : 0 ≤ tot c ∧ tot c ≤ 8000 := by
  have ht := tot_bd h c.length (Nat.le_refl _)
  rw [List.take_length] at ht
  have := h.hi
  omega
theorem Cvl.shr {c : List Int} (h : Cvl c) {e : Int} (r : Int) (he : 0 ≤ e) (hs : e ≤ Go.Proofs.Ytaakefjblldccaa.tot c) : ∃ f Q, Shr c e (shareL c e r) f Q := share_shr h.ne h.pos h.hi h.tot.2 he hs

theorem map_red_mod {c : List Int} {f : Int → Int} {Q B : Int} (hQ : 1 ≤ Q) (h : ∀ x ∈ c, 0 ≤ f x ∧ f x ≤ B) : ∀ y ∈ c.map (fun x => red (f x) Q), 0 ≤ y.1 ∧ y.1 ≤ B ∧ 1 ≤ y.2 ∧ y.2 ≤ Q := fun y hy => by
  obtain ⟨x, hx, rfl⟩ := List.mem_map.1 hy
  obtain ⟨h1, h2⟩ := h x hx
  have a := red_pos (n := f x) hQ h1
  have b := red_bd (n := f x) (d := Q) (B := B) hQ (by omega) h2
  omega
theorem eqW_bd {c : List Int} (h : Cvl c) {e : Int} (he : 0 ≤ e) (hs : e ≤ tot c) : ∀ y ∈ eqW c e, 0 ≤ y.1 ∧ y.1 ≤ 9000 ∧ 1 ≤ y.2 ∧ y.2 ≤ 9 := by
  obtain ⟨p, q, hl, hp, hq, e1⟩ := eqW_shr h.ne h.pos h.hi he hs
  rw [e1]
  intro y hy
  have := map_red_mod (B := 9000) hl.hq (fun x hx => by
    have c1 := cap_facts hl.hq hp (h.holds x hx).1 (Int.le_refl x)
    have : x * q ≤ 1000 * 9 := Int.mul_le_mul (h.holds x hx).2 hq (by have := hl.hq; omega) (by omega)
    omega) y hy
  omega
theorem half_bd {l : List Rat2} (h : ∀ y ∈ l, 0 ≤ y.1 ∧ y.1 ≤ 9000 ∧ 1 ≤ y.2 ∧ y.2 ≤ 9) : ∀ y ∈ halfL l, 0 ≤ y.1 ∧ y.1 ≤ 9000 ∧ 1 ≤ y.2 ∧ y.2 ≤ 18 := fun y hy => by
  obtain ⟨x, hx, rfl⟩ := List.mem_map.1 hy
  have := h x hx
  have a := red_pos (n := x.1) (d := 2 * x.2) (by omega) (by omega)
  have b := red_bd (n := x.1) (d := 2 * x.2) (B := 9000) (by omega) (by omega) (by omega)
  omega
theorem mod_of {l : List Rat2} {A B : Int} (h : ∀ y ∈ l, 0 ≤ y.1 ∧ y.1 ≤ A ∧ 1 ≤ y.2 ∧ y.2 ≤ B) (hA : A ≤ 1000000000) (hB : B ≤ 1000000) : Mod l := fun y hy => by
  have := h y hy; omega
theorem eqW_length (c : List Int) (e : Int) : (eqW c e).length = c.length := by unfold eqW levA; rw [List.length_map]
theorem halfL_length (l : List Rat2) : (halfL l).length = l.length := by unfold halfL; rw [List.length_map]

theorem GivesR.keep {l : List Rat2} {w w1 : World} {e : Ending} {w' : World} (hb : Below w.heap.size w w1) (h : GivesR l w1 e w') : GivesR l w e w' := by
  obtain ⟨v, rfl, ho, hb2⟩ := h
  exact ⟨v, rfl, ho.base hb.size, below_trans hb hb2⟩


set_option maxHeartbeats 1000000 in
theorem losses_any (v : Value) (c : List Int) (e0 : Int) (w : World) (hv : IntsAt w v c) (hc : Cvl c) (he : 0 ≤ e0) (hes : e0 ≤ tot c) :
    Calls Try.prog 115 #[v, .int .i64 e0] w (GivesR (lessL c (eqW c (tot c - e0))) w) := by
  have HV := Lib.hid hv
  have HH := Lib.hid hc
  have ht := hc.tot
  have E1 := Lib.hid (equal_any v c (tot c - e0) w hv hc (by omega) (by omega))
  have M1 := Lib.hid (eqW_bd hc (e := tot c - e0) (by omega) (by omega))
  have L1 := Lib.hid (eqW_length c (tot c - e0))
  have hhi := hc.hi
  clear hv hc
  have l8 : (eqW c (tot c - e0)).length ≤ 9223372036854775807 := by rw [L1.out]; omega
  have S := Lib.hid (sum_any v c w HV.out HH.out)
  generalize hg : eqW c (tot c - e0) = E at *
  have HE := Lib.hid hg
  clear hg
  generalize tot c = t at *
  go_enter Try.func115, Try.ntmps115
  go_wp2_with fail
  refine (S.out).mono ?_
  rintro e w' ⟨rfl, rfl⟩
  go_wp2_with fail
  refine E1.out.mono ?_
  rintro e w1 ⟨v1, rfl, ho, hb1⟩
  go_wp2_with fail
  refine (less_any v v1 c E w1 (HV.out.below hb1) (ho.at l8) HH.out L1.out (mod_of M1.out (by omega) (by omega))).mono ?_
  rintro e w2 ⟨v2, rfl, ho2, hb2⟩
  have O := Lib.hid (ho2.base hb1.size)
  have B := Lib.hid (below_trans hb1 hb2)
  clear ho ho2 hb1 hb2
  go_wp2
  go_ret
  exact ⟨_, rfl, O.out, B.out⟩

/-- The awards by the old rule. -/
def oldL (c : List Int) (e : Int) : List Rat2 := if 2 * e > tot c then lessL c (halfL (eqW c (2 * (tot c - e)))) else halfL (eqW c (2 * e))

set_option maxHeartbeats 1000000 in
theorem old_any (v : Value) (c : List Int) (e0 : Int) (w : World) (hv : IntsAt w v c) (hc : Cvl c) (he : 0 ≤ e0) (hes : e0 ≤ tot c) :
    Calls Try.prog 116 #[v, .int .i64 e0] w (GivesR (oldL c e0) w) := by
  have HV := Lib.hid hv
  have HH := Lib.hid hc
  have ht := hc.tot
  have hhi := hc.hi
  have S := Lib.hid (sum_any v c w hv hc)
  by_cases h2 : tot c < 2 * e0
  · have OL : Hid (oldL c e0 = lessL c (halfL (eqW c (2 * (tot c - e0))))) := Lib.hid (by unfold oldL; rw [if_pos h2])
    have E1 := Lib.hid (equal_any v c (2 * (tot c - e0)) w hv hc (by omega) (by omega))
    have M1 := Lib.hid (eqW_bd hc (e := 2 * (tot c - e0)) (by omega) (by omega))
    have L1 := Lib.hid (eqW_length c (2 * (tot c - e0)))
    have l8 : (eqW c (2 * (tot c - e0))).length ≤ 8 := by rw [L1.out]; omega
    rw [OL.out]
    clear OL hv hc
    generalize hg : eqW c (2 * (tot c - e0)) = E at *
    clear hg
    have M2 := Lib.hid (half_bd M1.out)
    have L2 : Hid ((halfL E).length = c.length) := Lib.hid (by rw [halfL_length, L1.out])
    have l9 : (halfL E).length ≤ 9223372036854775807 := by rw [L2.out]; omega
    generalize tot c = t at *
    go_enter Try.func116, Try.ntmps116
    go_wp2_with fail
    refine (S.out).mono ?_
    rintro e w' ⟨rfl, rfl⟩
    go_wp2_with fail
    refine E1.out.mono ?_
    rintro e w1 ⟨v1, rfl, ho, hb1⟩
    go_wp2_with fail
    refine (half_any v1 E w1 (ho.at (by omega)) l8 (mod_of M1.out (by omega) (by omega))).mono ?_
    rintro e w2 ⟨v2, rfl, ho2, hb2'⟩
    have hb2 := below_trans hb1 hb2'
    go_wp2_with fail
    refine (less_any v v2 c (halfL E) w2 (HV.out.below hb2) (ho2.at l9) HH.out L2.out (mod_of M2.out (by omega) (by omega))).mono ?_
    rintro e w3 ⟨v3, rfl, ho3, hb3⟩
    have O := Lib.hid (ho3.base hb2.size)
    have B := Lib.hid (below_trans hb2 hb3)
    clear ho ho2 ho3 hb1 hb2 hb2' hb3
    go_wp2
    go_ret
    exact ⟨_, rfl, O.out, B.out⟩
  · have OL : Hid (oldL c e0 = halfL (eqW c (2 * e0))) := Lib.hid (by unfold oldL; rw [if_neg h2])
    have E1 := Lib.hid (equal_any v c (2 * e0) w hv hc (by omega) (by omega))
    have M1 := Lib.hid (eqW_bd hc (e := 2 * e0) (by omega) (by omega))
    have L1 := Lib.hid (eqW_length c (2 * e0))
    have l8 : (eqW c (2 * e0)).length ≤ 8 := by rw [L1.out]; omega
    rw [OL.out]
    clear OL hv hc
    generalize hg : eqW c (2 * e0) = E at *
    clear hg
    generalize tot c = t at *
    go_enter Try.func116, Try.ntmps116
    go_wp2_with fail
    refine (S.out).mono ?_
    rintro e w' ⟨rfl, rfl⟩
    go_wp2_with fail
    refine E1.out.mono ?_
    rintro e w1 ⟨v1, rfl, ho, hb1⟩
    go_wp2_with fail
    refine (half_any v1 E w1 (ho.at (by omega)) l8 (mod_of M1.out (by omega) (by omega))).mono ?_
    rintro e w2 ⟨v2, rfl, ho2, hb2⟩
    have O := Lib.hid (ho2.base hb1.size)
    have B := Lib.hid (below_trans hb1 hb2)
    clear ho ho2 hb1 hb2
    go_wp2
    go_ret
    exact ⟨_, rfl, O.out, B.out⟩


set_option maxHeartbeats 1000000 in
theorem ruled_no (n : Int) (w : World) (h : betw 1 n 4 = false) :
    Calls Try.prog 96 #[.int .i64 n] w fun e w' => (∃ v, e = .returned (.tuple #[v, .bool false])) ∧ Below w.heap.size w w' := by
  have H := Lib.hid h
  clear h
  go_enter Try.func96, Try.ntmps96
  go_wp2_with fail
  refine (between_any _ _ _ _).mono ?_
  rintro e w' ⟨rfl, rfl⟩
  rw [H.out]
  go_wp2
  go_ret2
  exact ⟨⟨_, rfl⟩, (Below.refl _ _).alloc (Nat.le_refl _) _⟩

set_option maxHeartbeats 1000000 in
theorem ruled_1 (w : World) :
    Calls Try.prog 96 #[.int .i64 1] w fun e w' => e = .returned (.tuple #[.func (.func 114) #[] #[], .bool true]) ∧ Below w.heap.size w w' := by
  have H : Hid (betw 1 1 4 = true) := Lib.hid rfl
  go_enter Try.func96, Try.ntmps96
  go_wp2_with fail
  refine (between_any _ _ _ _).mono ?_
  rintro e w' ⟨rfl, rfl⟩
  rw [H.out]
  go_wp2
  go_ret2
  exact ⟨rfl, (Below.refl _ _).alloc (Nat.le_refl _) _⟩

set_option maxHeartbeats 1000000 in
theorem ruled_2 (w : World) :
    Calls Try.prog 96 #[.int .i64 2] w fun e w' => e = .returned (.tuple #[.func (.func 74) #[] #[], .bool true]) ∧ Below w.heap.size w w' := by
  have H : Hid (betw 1 2 4 = true) := Lib.hid rfl
  go_enter Try.func96, Try.ntmps96
  go_wp2_with fail
  refine (between_any _ _ _ _).mono ?_
  rintro e w' ⟨rfl, rfl⟩
  rw [H.out]
  go_wp2
  go_ret2
  exact ⟨rfl, (Below.refl _ _).alloc (Nat.le_refl _) _⟩

set_option maxHeartbeats 1000000 in
theorem ruled_3 (w : World) :
    Calls Try.prog 96 #[.int .i64 3] w fun e w' => e = .returned (.tuple #[.func (.func 115) #[] #[], .bool true]) ∧ Below w.heap.size w w' := by
  have H : Hid (betw 1 3 4 = true) := Lib.hid rfl
  go_enter Try.func96, Try.ntmps96
  go_wp2_with fail
  refine (between_any _ _ _ _).mono ?_
  rintro e w' ⟨rfl, rfl⟩
  rw [H.out]
  go_wp2
  go_ret2
  exact ⟨rfl, (Below.refl _ _).alloc (Nat.le_refl _) _⟩

set_option maxHeartbeats 1000000 in
theorem ruled_4 (w : World) :
    Calls Try.prog 96 #[.int .i64 4] w fun e w' => e = .returned (.tuple #[.func (.func 116) #[] #[], .bool true]) ∧ Below w.heap.size w w' := by
  have H : Hid (betw 1 4 4 = true) := Lib.hid rfl
  go_enter Try.func96, Try.ntmps96
  go_wp2_with fail
  refine (between_any _ _ _ _).mono ?_
  rintro e w' ⟨rfl, rfl⟩
  rw [H.out]
  go_wp2
  go_ret2
  exact ⟨rfl, (Below.refl _ _).alloc (Nat.le_refl _) _⟩

/-- The first error of claims, an estate and a rule; the awards. -/
def shareE (c : List Int) (n r : Int) : Int := if askE c n = 0 then (if betw 1 r 4 then 0 else 2) else askE c n
def shareV (c : List Int) (n r : Int) : List Rat2 := if shareE c n r = 0 then shareL c n r else []
def GivesS (c : List Int) (n r : Int) (w : World) (e : Ending) (w' : World) : Prop :=
  ∃ v, e = .returned (.tuple #[v, .int .i64 (shareE c n r)]) ∧ OwnR w' w.heap.size v (shareV c n r) ∧ Below w.heap.size w w'

theorem askE_ok2 {c : List Int} {n : Int} (h : askE c n = 0) : Cvl c ∧ 0 ≤ n ∧ n ≤ tot c := by
  unfold askE at h
  split at h
  · rename_i h1
    split at h
    · rename_i h2
      have hb := (betw_iff _ _ _).1 h2
      exact ⟨(cvl_iff c).1 h1, by omega, by omega⟩
    · omega
  · omega

theorem shareE_ok {c : List Int} {n r : Int} (h : shareE c n r = 0) : askE c n = 0 ∧ 1 ≤ r ∧ r ≤ 4 := by
  unfold shareE at h
  split at h
  · split at h
    · rename_i h1 h2
      have hb := (betw_iff _ _ _).1 h2
      exact ⟨h1, by omega, by omega⟩
    · omega
  · rename_i h1
    exact absurd h h1


set_option maxHeartbeats 2000000 in
theorem shared_any (v : Value) (c : List Int) (n r : Int) (w : World) (hv : IntsAt w v c) :
    Calls Try.prog 63 #[v, .int .i64 n, .int .i64 r] w (GivesS c n r w) := by
  have HV := Lib.hid hv
  clear hv
  by_cases h0 : askE c n = 0
  · obtain ⟨hc, h1, h2⟩ := askE_ok2 h0
    have A := Lib.hid h0
    have HH := Lib.hid hc
    have h3 := hc.tot
    clear h0 hc
    cases hr : betw 1 r 4 with
    | false =>
      have R := Lib.hid hr
      have E0 : Hid (shareE c n r = 2) := Lib.hid (by unfold shareE; rw [if_pos A.out, hr]; rfl)
      have V0 : Hid (shareV c n r = []) := Lib.hid (by unfold shareV; rw [E0.out]; rfl)
      clear hr
      go_enter Try.func63, Try.ntmps63
      go_wp2_with fail
      refine (checked_any _ _ _ _ HV.out).mono ?_
      rintro e w' ⟨rfl, rfl⟩
      rw [A.out]
      go_wp2_with fail
      refine (ruled_no _ _ R.out).mono ?_
      rintro e w1 ⟨⟨v1, rfl⟩, hb1⟩
      go_wp2
      go_ret2
      exact ⟨.slice none 0 0, by rw [E0.out]; rfl, by rw [V0.out]; exact OwnR.nil _ _, hb1⟩
    | true =>
      have hb := (betw_iff _ _ _).1 hr
      have h4 : r = 1 ∨ r = 2 ∨ r = 3 ∨ r = 4 := by omega
      clear hr hb
      rcases h4 with rfl | rfl | rfl | rfl
      · have h5 : n ≤ 8000 := by omega
        have PC := fun w1 (q : IntsAt w1 v c) => proportion_any v c n w1 q HH.out h1 h5
        have E0 : Hid (shareE c n 1 = 0) := Lib.hid (by unfold shareE; rw [if_pos A.out]; rfl)
        have V0 : Hid (shareV c n 1 = propL c n) := Lib.hid (by unfold shareV; rw [if_pos E0.out]; rfl)
        have PH := Lib.hid PC
        clear PC
        go_enter Try.func63, Try.ntmps63
        go_wp2_with fail
        refine (checked_any _ _ _ _ HV.out).mono ?_
        rintro e w' ⟨rfl, rfl⟩
        rw [A.out]
        go_wp2_with fail
        refine (ruled_1 _).mono ?_
        rintro e w1 ⟨rfl, hb1⟩
        go_wp2_with fail
        refine (PH.out w1 (HV.out.below hb1)).mono ?_
        rintro e w2 ⟨v2, rfl, ho2, hb2⟩
        have O := Lib.hid (ho2.base hb1.size)
        have B := Lib.hid (below_trans hb1 hb2)
        clear ho2 hb1 hb2
        go_wp2
        go_ret2
        exact ⟨_, by rw [E0.out]; rfl, by rw [V0.out]; exact O.out, B.out⟩
      · have E0 : Hid (shareE c n 2 = 0) := Lib.hid (by unfold shareE; rw [if_pos A.out]; rfl)
        have V0 : Hid (shareV c n 2 = eqW c n) := Lib.hid (by unfold shareV; rw [if_pos E0.out]; rfl)
        go_enter Try.func63, Try.ntmps63
        go_wp2_with fail
        refine (checked_any _ _ _ _ HV.out).mono ?_
        rintro e w' ⟨rfl, rfl⟩
        rw [A.out]
        go_wp2_with fail
        refine (ruled_2 _).mono ?_
        rintro e w1 ⟨rfl, hb1⟩
        go_wp2_with fail
        refine (equal_any v c n w1 (HV.out.below hb1) HH.out h1 h2).mono ?_
        rintro e w2 ⟨v2, rfl, ho2, hb2⟩
        have O := Lib.hid (ho2.base hb1.size)
        have B := Lib.hid (below_trans hb1 hb2)
        clear ho2 hb1 hb2
        go_wp2
        go_ret2
        exact ⟨_, by rw [E0.out]; rfl, by rw [V0.out]; exact O.out, B.out⟩
      · have E0 : Hid (shareE c n 3 = 0) := Lib.hid (by unfold shareE; rw [if_pos A.out]; rfl)
        have V0 : Hid (shareV c n 3 = lessL c (eqW c (tot c - n))) := Lib.hid (by unfold shareV; rw [if_pos E0.out]; rfl)
        go_enter Try.func63, Try.ntmps63
        go_wp2_with fail
        refine (checked_any _ _ _ _ HV.out).mono ?_
        rintro e w' ⟨rfl, rfl⟩
        rw [A.out]
        go_wp2_with fail
        refine (ruled_3 _).mono ?_
        rintro e w1 ⟨rfl, hb1⟩
        go_wp2_with fail
        refine (losses_any v c n w1 (HV.out.below hb1) HH.out h1 h2).mono ?_
        rintro e w2 ⟨v2, rfl, ho2, hb2⟩
        have O := Lib.hid (ho2.base hb1.size)
        have B := Lib.hid (below_trans hb1 hb2)
        clear ho2 hb1 hb2
        go_wp2
        go_ret2
        exact ⟨_, by rw [E0.out]; rfl, by rw [V0.out]; exact O.out, B.out⟩
      · have E0 : Hid (shareE c n 4 = 0) := Lib.hid (by unfold shareE; rw [if_pos A.out]; rfl)
        have V0 : Hid (shareV c n 4 = oldL c n) := Lib.hid (by unfold shareV; rw [if_pos E0.out]; rfl)
        go_enter Try.func63, Try.ntmps63
        go_wp2_with fail
        refine (checked_any _ _ _ _ HV.out).mono ?_
        rintro e w' ⟨rfl, rfl⟩
        rw [A.out]
        go_wp2_with fail
        refine (ruled_4 _).mono ?_
        rintro e w1 ⟨rfl, hb1⟩
        go_wp2_with fail
        refine (old_any v c n w1 (HV.out.below hb1) HH.out h1 h2).mono ?_
        rintro e w2 ⟨v2, rfl, ho2, hb2⟩
        have O := Lib.hid (ho2.base hb1.size)
        have B := Lib.hid (below_trans hb1 hb2)
        clear ho2 hb1 hb2
        go_wp2
        go_ret2
        exact ⟨_, by rw [E0.out]; rfl, by rw [V0.out]; exact O.out, B.out⟩
  · have E0 : Hid (shareE c n r = askE c n) := Lib.hid (by unfold shareE; rw [if_neg h0])
    have V0 : Hid (shareV c n r = []) := Lib.hid (by unfold shareV; rw [E0.out, if_neg h0])
    have hb : (askE c n != 0) = true := by rw [bne_iff_ne]; exact h0
    clear h0
    go_enter Try.func63, Try.ntmps63
    go_wp2_with fail
    refine (checked_any _ _ _ _ HV.out).mono ?_
    rintro e w' ⟨rfl, rfl⟩
    go_wp2
    go_ret2
    exact ⟨.slice none 0 0, by rw [E0.out]; rfl, by rw [V0.out]; exact OwnR.nil _ _, Below.refl _ _⟩

set_option maxHeartbeats 1000000 in
theorem Share_any (v : Value) (c : List Int) (n r : Int) (w : World) (hv : IntsAt w v c) :
    Calls Try.prog 27 #[v, .int .i64 n, .int .i64 r] w (GivesS c n r w) := by
  have S := Lib.hid (shared_any v c n r w hv)
  clear hv
  go_enter Try.func27, Try.ntmps27
  go_wp2_with fail
  refine S.out.mono ?_
  rintro e w1 ⟨v1, rfl, ho, hb⟩
  have O := Lib.hid ho
  have B := Lib.hid hb
  clear ho hb
  go_wp2
  go_ret2
  exact ⟨_, rfl, O.out, B.out⟩

/-- The sum of the claims less the estate. -/
def missV (c : List Int) (n : Int) : Int := if askE c n = 0 then tot c - n else 0


set_option maxHeartbeats 1000000 in
theorem Missing_any (v : Value) (c : List Int) (n : Int) (w : World) (hv : IntsAt w v c) :
    Calls Try.prog 40 #[v, .int .i64 n] w fun e w' => e = .returned (.tuple #[.int .i64 (missV c n), .int .i64 (askE c n)]) ∧ w = w' := by
  have HV := Lib.hid hv
  clear hv
  by_cases h0 : askE c n = 0
  · obtain ⟨hc, h1, h2⟩ := askE_ok2 h0
    have A := Lib.hid h0
    have h3 := hc.tot
    have S := Lib.hid (sum_any v c w HV.out hc)
    have M : Hid (missV c n = tot c - n) := Lib.hid (by unfold missV; rw [if_pos h0])
    clear h0 hc
    generalize tot c = t at *
    go_enter Try.func40, Try.ntmps40
    go_wp2_with fail
    refine (checked_any _ _ _ _ HV.out).mono ?_
    rintro e w' ⟨rfl, rfl⟩
    rw [A.out]
    go_wp2_with fail
    refine S.out.mono ?_
    rintro e w' ⟨rfl, rfl⟩
    go_wp2
    go_ret2
    exact ⟨by rw [M.out, A.out]; rfl, rfl⟩
  · have M : Hid (missV c n = 0) := Lib.hid (by unfold missV; rw [if_neg h0])
    have hb : (askE c n != 0) = true := by rw [bne_iff_ne]; exact h0
    clear h0
    go_enter Try.func40, Try.ntmps40
    go_wp2_with fail
    refine (checked_any _ _ _ _ HV.out).mono ?_
    rintro e w' ⟨rfl, rfl⟩
    go_wp2
    go_ret2
    exact ⟨by rw [M.out]; rfl, rfl⟩

set_option maxHeartbeats 1000000 in
theorem rMissing_any (v : Value) (c : List Int) (n : Int) (w : World) (hv : IntsAt w v c) :
    Calls Try.prog 41 #[v, .int .i64 n] w fun e w' => e = .returned (.tuple #[.int .i64 (missV c n), .int .i64 (askE c n)]) ∧ w = w' := by
  have HV := Lib.hid hv
  clear hv
  by_cases h0 : askE c n = 0
  · obtain ⟨hc, h1, h2⟩ := askE_ok2 h0
    have A := Lib.hid h0
    have h3 := hc.tot
    have S := Lib.hid (total_any v c w HV.out hc)
    have M : Hid (missV c n = tot c - n) := Lib.hid (by unfold missV; rw [if_pos h0])
    clear h0 hc
    generalize tot c = t at *
    go_enter Try.func41, Try.ntmps41
    go_wp2_with fail
    refine (rasked_any _ _ _ _ HV.out).mono ?_
    rintro e w' ⟨rfl, rfl⟩
    rw [A.out]
    go_wp2_with fail
    refine S.out.mono ?_
    rintro e w' ⟨rfl, rfl⟩
    go_wp2
    go_ret2
    exact ⟨by rw [M.out, A.out]; rfl, rfl⟩
  · have M : Hid (missV c n = 0) := Lib.hid (by unfold missV; rw [if_neg h0])
    have hb : (askE c n != 0) = true := by rw [bne_iff_ne]; exact h0
    clear h0
    go_enter Try.func41, Try.ntmps41
    go_wp2_with fail
    refine (rasked_any _ _ _ _ HV.out).mono ?_
    rintro e w' ⟨rfl, rfl⟩
    go_wp2
    go_ret2
    exact ⟨by rw [M.out]; rfl, rfl⟩

end Go.Proofs.Ytaakefjblldccaa
