/- Texts of this claim, laid together: Q, S, T. -/
import Derived.Test.YtikcpfpeoofppaaP
import Derived.Test.YtikcpfpeoofppaaR

/- Contracts: After, Does (the program). -/
namespace Go.Proofs.Ytikcpfpeoofppaa
open Go.RowKit

set_option maxHeartbeats 400000 in
theorem nothing_any (d : Deed) (a b : List Int) (w : World) :
    Calls Try.prog 75 #[deedV d, pad a, pad b] w fun e w' => (∃ u, e = .returned u) ∧ Below w.heap.size w w' := by
  unfold deedV pad levV
  go_enter Try.func75, Try.ntmps75
  go_wp2
  go_end0
  refine ⟨⟨_, rfl⟩, ?_⟩
  repeat (first | assumption | exact Below.refl _ _ | refine Below.setCell ?_ (by first | omega | (simp; done) | (simp; omega)) _ | refine Below.drew ?_ | refine Below.alloc ?_ (by first | omega | (simp; done) | (simp; omega)) _)

/-- What After and Does give. -/
def GivesA (t l : List Int) (ds : List Deed) (w : World) (e : Ending) (w' : World) : Prop := ∃ ov, e = .returned (.tuple #[ov, .int .i64 (runE t l ds)]) ∧ IntsAt w' ov (runV t l ds) ∧ Below w.heap.size w w'

theorem Kx.none {w w' : World} (h : Kx (fun _ => False) w w') : Below w.heap.size w w' := h.below (Nat.le_refl _) (fun _ h => h.elim)

theorem runA_any (v y x : Value) (t l : List Int) (ds : List Deed) (w : World) (hv : IntsAt w v t) (hy : IntsAt w y l) (hx : DeedsAt w x ds) :
    Calls Try.prog 74 #[v, y, x, .func (.func 75) #[] #[]] w (GivesA t l ds w) :=
  (run_any (fun _ => False) (fun _ _ => True) 75 #[] (enters_of Try.func75 (by kernel_rfl) rfl) v y x t l ds w w hv hy hx (Below.refl _ _) (fun _ h => h.elim) trivial (fun _ _ _ _ _ => trivial)
    (fun k W _ _ _ _ _ _ _ => (nothing_any _ _ _ W).mono fun _ _ ⟨h1, h2⟩ => ⟨h1, trivial, Kx.of_below h2⟩)).mono fun _ _ ⟨ov, h1, h2, h3, _⟩ => ⟨ov, h1, h2, h3.none⟩

set_option maxHeartbeats 400000 in
theorem tAfter_any (v y x : Value) (t l : List Int) (ds : List Deed) (w : World) (hv : IntsAt w v t) (hy : IntsAt w y l) (hx : DeedsAt w x ds) :
    Calls Try.prog 41 #[v, y, x] w (GivesA t l ds w) := by
  have C := Lib.hid (runA_any v y x t l ds w hv hy hx)
  obtain ⟨_, _, rfl, _⟩ := hv
  obtain ⟨_, _, rfl, _⟩ := hy
  obtain ⟨_, _, rfl, _⟩ := hx
  go_enter Try.func41, Try.ntmps41
  go_wp2_with fail
  refine C.out.mono ?_
  rintro e w1 ⟨ov, rfl, hov, hb1⟩
  have O := Lib.hid hov
  clear hov C
  generalize hre : runE t l ds = re at *
  go_wp2
  refine bodyPost_ret (v := .tuple #[ov, .int .i64 re]) (by simp [results, Try.results41, go_sem]) rfl ⟨ov, by rw [hre], O.out, hb1⟩

theorem deeds_one {w : World} {n : Nat} (d : Deed) (hn : w.heap.size = n) : DeedsAt (w.alloc (.cells #[.int .i64 d.1, .int .i64 d.2.1, .int .i64 d.2.2] 43)) (.slice (some ⟨n, 0, none⟩) 1 1) [d] := by
  subst hn
  refine ⟨some ⟨w.heap.size, 0, none⟩, 1, rfl, by simp, fun _ => ⟨w.heap.size, 0, rfl, fun j hj => ?_⟩⟩
  simp at hj
  subst hj
  refine ⟨?_, ?_, ?_⟩ <;> simp

set_option maxHeartbeats 400000 in
theorem tDoesP_any (v y : Value) (t l : List Int) (d : Deed) (w : World) (hv : IntsAt w v t) (hy : IntsAt w y l) :
    Calls Try.prog 36 #[v, y, deedV d] w (GivesA t l [d] w) := by
  obtain ⟨d1, d2, d3⟩ := d
  have hB1 := (Below.refl w.heap.size w).alloc (Nat.le_refl _) (.cells #[.int .i64 d1, .int .i64 d2, .int .i64 d3] 43)
  have hB2 := hB1.alloc (by simp) (.cells #[.int .i64 d1, .int .i64 d2, .int .i64 d3] 43)
  have C := Lib.hid (runA_any v y _ t l [(d1, d2, d3)] _ (hv.below hB2) (hy.below hB2) (deeds_one (d1, d2, d3) (World.size_alloc _ _)))
  obtain ⟨_, _, rfl, _⟩ := hv
  obtain ⟨_, _, rfl, _⟩ := hy
  unfold deedV
  go_enter Try.func36, Try.ntmps36
  go_wp2_with fail
  refine C.out.mono ?_
  rintro e w1 ⟨ov, rfl, hov, hb1⟩
  have O := Lib.hid hov
  clear hov C
  generalize hre : runE t l [(d1, d2, d3)] = re at *
  go_wp2
  refine bodyPost_ret (v := .tuple #[ov, .int .i64 re]) (by simp [results, Try.results36, go_sem]) rfl ⟨ov, by rw [hre], O.out, hB2.trans (hb1.mono hB2.size)⟩

end Go.Proofs.Ytikcpfpeoofppaa

/- Contracts: deeds, After and Does of the reference. -/
namespace Go.Proofs.Ytikcpfpeoofppaa
open Go.RowKit

instance (n : Nat) (d : Deed) : Decidable (IsD n d) := by unfold IsD; infer_instance


set_option maxHeartbeats 2000000 in
theorem isDeed_any (v : Value) (t : List Int) (d : Deed) (w : World) (hv : IntsAt w v t) (ht : t.length ≤ 4) :
    Calls Try.prog 91 #[v, deedV d] w fun e w' => e = .returned (.bool (decide (IsD t.length d))) ∧ Below w.heap.size w w' := by
  obtain ⟨a, cap, rfl, _⟩ := hv
  obtain ⟨d1, d2, d3⟩ := d
  have hB1 := (Below.refl w.heap.size w).alloc (Nat.le_refl _) (.cells #[.int .i64 d1, .int .i64 d2, .int .i64 d3] 43)
  simp only [deedV]
  have J : Hid (decide (IsD t.length (d1, d2, d3)) = decide ((d1 = 1 ∨ d1 = 2) ∧ d2 = 0 ∧ 0 ≤ d3 ∧ d3 < (t.length : Int) ∨ d1 = 3 ∧ 0 ≤ d2 ∧ d2 < (t.length : Int) ∧ 0 ≤ d3 ∧ d3 < (t.length : Int) ∧ d2 ≠ d3)) := Lib.hid rfl
  generalize hid : decide (IsD t.length (d1, d2, d3)) = bb at *
  clear hid
  cases h1 : betw 0 d3 ((t.length : Int) - 1) with
  | false =>
    have B1 := Lib.hid h1
    have B2 := B1
    have R := Lib.hid (show bb = false by
      rw [J.out, decide_eq_false]
      have : ¬ (0 ≤ d3 ∧ d3 ≤ (t.length : Int) - 1) := fun h => by have := (betw_iff _ _ _).2 h; rw [h1] at this; cases this
      omega)
    clear h1 J
    go_enter Try.func91, Try.ntmps91
    go_wp2_with (go_at_call 56; refine (within_any _ _ _ _).mono ?_; rintro e w' ⟨rfl, rfl⟩; first | rw [B1.out] | rw [B2.out])
    go_ret
    exact ⟨ret_b R.out.symm, hB1⟩
  | true =>
    have B1 := Lib.hid h1
    have h1' := (betw_iff _ _ _).1 h1
    clear h1
    by_cases e12 : d1 = 1 ∨ d1 = 2
    · have B2 := B1
      have R := Lib.hid (show decide (d2 = 0) = bb by
        rw [J.out, Bool.eq_iff_iff, decide_eq_true_iff, decide_eq_true_iff]
        omega)
      clear J h1'
      rcases e12 with rfl | rfl
      · go_enter Try.func91, Try.ntmps91
        go_wp2_with (go_at_call 56; refine (within_any _ _ _ _).mono ?_; rintro e w' ⟨rfl, rfl⟩; first | rw [B1.out] | rw [B2.out])
        go_ret
        exact ⟨ret_b R.out, hB1⟩
      · go_enter Try.func91, Try.ntmps91
        go_wp2_with (go_at_call 56; refine (within_any _ _ _ _).mono ?_; rintro e w' ⟨rfl, rfl⟩; first | rw [B1.out] | rw [B2.out])
        go_ret
        exact ⟨ret_b R.out, hB1⟩
    · have n1 : ¬ d1 = 1 := fun h => e12 (.inl h)
      have n2 : ¬ d1 = 2 := fun h => e12 (.inr h)
      by_cases e3 : d1 = 3
      · subst e3
        cases h2 : betw 0 d2 ((t.length : Int) - 1) with
        | false =>
          have B2 := Lib.hid h2
          have R := Lib.hid (show false = bb by
            rw [J.out, eq_comm, decide_eq_false]
            have : ¬ (0 ≤ d2 ∧ d2 ≤ (t.length : Int) - 1) := fun h => by have := (betw_iff _ _ _).2 h; rw [h2] at this; cases this
            omega)
          clear J h1' h2 e12 n1 n2
          go_enter Try.func91, Try.ntmps91
          go_wp2_with (go_at_call 56; refine (within_any _ _ _ _).mono ?_; rintro e w' ⟨rfl, rfl⟩; first | rw [B1.out] | rw [B2.out])
          go_ret
          exact ⟨ret_b R.out, hB1⟩
        | true =>
          have B2 := Lib.hid h2
          have h2' := (betw_iff _ _ _).1 h2
          have R := Lib.hid (show (d2 != d3) = bb by
            rw [J.out, Bool.eq_iff_iff, decide_eq_true_iff, bne_iff_ne]
            omega)
          clear J h1' h2 h2' e12 n1 n2
          go_enter Try.func91, Try.ntmps91
          go_wp2_with (go_at_call 56; refine (within_any _ _ _ _).mono ?_; rintro e w' ⟨rfl, rfl⟩; first | rw [B1.out] | rw [B2.out])
          go_ret
          exact ⟨ret_b R.out, hB1⟩
      · have B2 := B1
        have R := Lib.hid (show false = bb by
          rw [J.out, eq_comm, decide_eq_false]
          omega)
        have q1 := beq_eq_false_iff_ne.2 n1
        have q2 := beq_eq_false_iff_ne.2 n2
        have q3 := beq_eq_false_iff_ne.2 e3
        clear J h1' e12 n1 n2 e3
        go_enter Try.func91, Try.ntmps91
        go_wp2_with (go_at_call 56; refine (within_any _ _ _ _).mono ?_; rintro e w' ⟨rfl, rfl⟩; first | rw [B1.out] | rw [B2.out])
        go_ret
        exact ⟨ret_b R.out, hB1⟩

theorem areD_bad {n : Nat} {l : List Deed} {k : Nat} (hk : k < l.length) (h : ¬ IsD n (l.getD k noDeed)) : areD n l = false := by
  cases hb : areD n l with
  | false => rfl
  | true => exact absurd (isD_at hb hk) h
theorem areD_end {n : Nat} {l : List Deed} {k : Nat} (h : ∀ j, j < k → IsD n (l.getD j noDeed)) (hk : ¬ (k < l.length ∧ k ≤ 200)) : decide (((l.length : Nat) : Int) ≤ 200) = areD n l := by
  rw [Bool.eq_iff_iff, decide_eq_true_iff, areD_iff]
  constructor
  · intro hl
    refine ⟨by omega, fun d hd => ?_⟩
    obtain ⟨i, hi, rfl⟩ := List.getElem_of_mem hd
    have := h i (by omega)
    rwa [List.getD_eq_getElem?_getD, List.getElem?_eq_getElem hi] at this
  · intro hl
    omega

set_option maxHeartbeats 1000000 in
theorem rAreDeeds_any (v x : Value) (t : List Int) (l : List Deed) (w : World) (hv : IntsAt w v t) (ht : t.length ≤ 4) (hx : DeedsAt w x l) :
    Calls Try.prog 78 #[v, x] w fun e w' => e = .returned (.bool (areD t.length l)) ∧ Below w.heap.size w w' := by
  have V := Lib.hid hv
  obtain ⟨a0, cap0, rfl, _⟩ := hv
  obtain ⟨a, cap, rfl, hl, hq⟩ := hx
  go_enter Try.func78, Try.ntmps78
  go_wp2
  go_loopw [5] (fun i wr => ∃ k : Nat, k ≤ l.length ∧ k ≤ 201 ∧ i = .int .i64 k ∧ Hid (∀ j, j < k → IsD t.length (l.getD j noDeed)) ∧ Below w.heap.size w wr) (fun i _ => l.length - (intOf i).toNat)
  case atStart => exact ⟨0, Nat.zero_le _, by omega, rfl, Lib.hid (fun j hj => by omega), Below.refl _ _⟩
  case round =>
    obtain ⟨k, hk, hk1, rfl, H, hbel⟩ := hrel
    by_cases hlt : k < l.length
    · by_cases h200 : k ≤ 200
      · obtain ⟨b, off, rfl, hc⟩ := hq (by omega)
        obtain ⟨x1, x2, x3⟩ := hc k hlt
        have z1 := keep_cell hbel x1
        have z2 := keep_cell hbel x2
        have z3 := keep_cell hbel x3
        have C := Lib.hid (isDeed_any _ t (l.getD k noDeed) wr (V.out.below hbel) ht)
        have N := Lib.hid (fun h => areD_bad (n := t.length) hlt h)
        have Y := Lib.hid (fun (h : IsD t.length (l.getD k noDeed)) => show ∀ j, j < k + 1 → IsD t.length (l.getD j noDeed) from fun j hj => by
          rcases Nat.lt_succ_iff_lt_or_eq.1 hj with h' | rfl
          · exact H.out j h'
          · exact h)
        clear hc hq x1 x2 x3
        generalize l.getD k noDeed = d at *
        obtain ⟨d1, d2, d3⟩ := d
        simp only at z1 z2 z3
        simp only [deedV] at C
        by_cases hd : IsD t.length (d1, d2, d3)
        · have R := Lib.hid (Y.out hd)
          rw [decide_eq_true hd] at C
          clear Y N hd
          go_wp2_with fail
          refine C.out.mono ?_
          rintro e w1 ⟨rfl, hb1⟩
          go_wp2
          go_roundw
          case rel => exact ⟨k + 1, by omega, by omega, by go_num, R, hbel.trans (hb1.mono hbel.size)⟩
          case measure => simp [intOf]; omega
        · have R := Lib.hid (N.out hd)
          rw [decide_eq_false hd] at C
          clear Y N hd
          go_wp2_with fail
          refine C.out.mono ?_
          rintro e w1 ⟨rfl, hb1⟩
          go_wp2
          go_ret
          exact ⟨ret_b R.out.symm, hbel.trans (hb1.mono hbel.size)⟩
      · have E := Lib.hid (areD_end H.out (fun h => h200 h.2))
        go_wp2
        go_ret
        exact ⟨ret_b E.out, hbel⟩
    · have E := Lib.hid (areD_end H.out (fun h => hlt h.1))
      obtain rfl : k = l.length := by omega
      go_wp2
      go_ret
      exact ⟨ret_b E.out, hbel⟩

end Go.Proofs.Ytikcpfpeoofppaa

/- Contracts: After and Does of the reference. -/
namespace Go.Proofs.Ytikcpfpeoofppaa
open Go.RowKit

set_option maxRecDepth 100000 in
set_option maxHeartbeats 2000000 in
theorem rAfter_any (v y x : Value) (t l : List Int) (ds : List Deed) (w : World) (hv : IntsAt w v t) (hy : IntsAt w y l) (hx : DeedsAt w x ds) :
    Calls Try.prog 42 #[v, y, x] w (GivesA t l ds w) := by
  have A := Lib.hid (rAsked_any v y t l w hv hy)
  have V := Lib.hid hv
  have Y := Lib.hid hy
  have X := Lib.hid hx
  by_cases hask : askE t [l] = 0
  · have AZ := askE_zero hask
    have HT := Lib.hid AZ.1
    have HL := Lib.hid AZ.2
    have REx := Lib.hid (show runE t l ds = if areD t.length ds then 0 else 2 by unfold runE; rw [if_pos hask])
    have D := Lib.hid (fun w1 hb => rAreDeeds_any v x t ds w1 (hv.below hb) AZ.1.hi (hx.below hb))
    rw [hask] at A
    clear hask
    cases hD : areD t.length ds with
    | false =>
      have RE := Lib.hid (show runE t l ds = 2 by rw [REx.out, hD]; rfl)
      have RV := Lib.hid (show runV t l ds = [] by unfold runV; rw [RE.out]; rfl)
      rw [hD] at D
      clear hD REx AZ
      obtain ⟨_, _, rfl, _⟩ := hv
      obtain ⟨_, _, rfl, _⟩ := hy
      obtain ⟨_, _, rfl, _⟩ := hx
      go_enter Try.func42, Try.ntmps42
      go_wp2_with fail
      refine A.out.mono ?_
      rintro e w1 ⟨rfl, hb1⟩
      go_wp2_with fail
      refine (D.out w1 hb1).mono ?_
      rintro e w2 ⟨rfl, hb2⟩
      have hB := hb1.trans (hb2.mono hb1.size)
      go_wp2
      refine bodyPost_ret (v := .tuple #[.slice none 0 0, .int .i64 2]) (by simp [results, Try.results42, go_sem]) rfl ⟨_, by rw [RE.out], by rw [RV.out]; exact ints_nil _, hB⟩
    | true =>
      have RE := Lib.hid (show runE t l ds = 0 by rw [REx.out, hD]; rfl)
      have RV := Lib.hid (show runV t l ds = lvK t l ds ds.length by unfold runV; rw [RE.out, if_pos rfl, lvK_full])
      have HD := Lib.hid hD
      rw [hD] at D
      have hl2 := HT.out.lo
      have hll : 0 < l.length := by rw [AZ.2.1]; omega
      have hl4 : l.length ≤ 4 := by rw [AZ.2.1]; exact AZ.1.hi
      clear hD REx AZ
      obtain ⟨a0, c0, rfl, _⟩ := hv
      obtain ⟨a1, c1, rfl, _⟩ := hy
      obtain ⟨a2, c2, rfl, _, hq⟩ := hx
      go_enter Try.func42, Try.ntmps42
      go_wp2_with fail
      refine A.out.mono ?_
      rintro e w1 ⟨rfl, hb1⟩
      go_wp2_with fail
      refine (D.out w1 hb1).mono ?_
      rintro e w2 ⟨rfl, hb2⟩
      have hB := hb1.trans (hb2.mono hb1.size)
      clear hb1 hb2 A D
      obtain ⟨lb, lo, lc, he, hic⟩ := ints_cell (Y.out.below hB) hll
      simp only [Value.slice.injEq] at he
      obtain ⟨rfl, -, rfl⟩ := he
      have NW := Lib.hid (ints_news hic (.cells #[] 3))
      obtain ⟨j0, hj0, hy0, hy1, hy2⟩ := info_parts Try.infoInt
      have hown0 := World.ownsRow_made (base := w2.heap.size) (e := 3) (size := 1) w2 #[] 0 (Nat.le_refl _) (by decide) rfl
      clear hic
      go_wp2_with (at_builtin; go_loud (refine wpList_append_own _ rfl (.tmp 25) (.tmp 26) 29 rfl w2.heap.size 3 j0 (.int .i64 0) 1 8 Try.underlying29 hj0 hy0 hy1 hy2 rfl (by decide) _ _ _ rfl hown0 ⟨lb, lo, none⟩ l.length c1 (l.map (Value.int .i64)) rfl (by simp) NW.out (int_vals_one l) (by unfold maxLen; omega) (by omega) (by simp) ?_))
      intro ov w3 hov0 hgr0 _
      have hb3 := clone_below rfl hgr0
      obtain ⟨g, cap, rfl, O, hg⟩ := own_form (by simpa using hov0) hll
      have hO : IntsAt w3 (.slice (some ⟨g, 0, none⟩) l.length cap) (lvK t l ds 0) := O.ints (by omega)
      have hB3 : Below w.heap.size w w3 := hB.trans (hb3.mono hB.size)
      clear hov0 hgr0 hown0 NW O
      go_wp2
      go_loopw [9, 10] (fun s i wr => ∃ k : Nat, k ≤ ds.length ∧ i = .int .i64 k ∧ IntsAt wr s (lvK t l ds k) ∧ Below w.heap.size w wr) (fun _ i _ => ds.length - (intOf i).toNat)
      case atStart => exact ⟨0, Nat.zero_le _, rfl, hO, hB3⟩
      case round =>
        obtain ⟨k, hk, rfl, hI, hbel⟩ := hrel
        by_cases hlt : k < ds.length
        · obtain ⟨b, off, rfl, hc⟩ := hq (by omega)
          obtain ⟨x1, x2, x3⟩ := hc k hlt
          have z1 := keep_cell hbel x1
          have z2 := keep_cell hbel x2
          have z3 := keep_cell hbel x3
          have C := Lib.hid (rDone_any _ _ t (lvK t l ds k) (ds.getD k noDeed) wr (V.out.below hbel) HT.out hI (lvK_lev HT.out HL.out HD.out k hk) (isD_at HD.out hlt))
          rw [← lvK_succ t l ds hlt] at C
          clear hc hq x1 x2 x3 hI
          generalize ds.getD k noDeed = d at *
          obtain ⟨d1, d2, d3⟩ := d
          simp only at z1 z2 z3
          simp only [deedV] at C
          go_wp2_with fail
          refine C.out.mono ?_
          rintro e w4 ⟨ov, rfl, hov, hb4, _⟩
          have O4 := Lib.hid hov
          clear hov C
          go_wp2
          go_roundw
          case rel => exact ⟨k + 1, by omega, by go_num, O4.out, hbel.trans (hb4.mono hbel.size)⟩
          case measure => simp [intOf]; omega
        · obtain rfl : k = ds.length := by omega
          have O4 := Lib.hid hI
          clear hI
          go_wp2
          refine bodyPost_ret (v := .tuple #[u9, .int .i64 0]) (by simp [results, Try.results42, go_sem]) rfl ⟨_, by rw [RE.out], by rw [RV.out]; exact O4.out, hbel⟩
  · have RE := Lib.hid (show runE t l ds = askE t [l] by unfold runE; rw [if_neg hask])
    have RV := Lib.hid (show runV t l ds = [] by unfold runV; rw [RE.out, if_neg hask])
    generalize askE t [l] = ae at *
    have hb : (ae == 0) = false := beq_eq_false_iff_ne.2 hask
    have hb2 : (ae != 0) = true := bne_iff_ne.2 hask
    obtain ⟨_, _, rfl, _⟩ := hv
    obtain ⟨_, _, rfl, _⟩ := hy
    obtain ⟨_, _, rfl, _⟩ := hx
    go_enter Try.func42, Try.ntmps42
    go_wp2_with fail
    refine A.out.mono ?_
    rintro e w1 ⟨rfl, hb1⟩
    go_wp2
    refine bodyPost_ret (v := .tuple #[.slice none 0 0, .int .i64 ae]) (by simp [results, Try.results42, go_sem]) rfl ⟨_, by rw [RE.out], by rw [RV.out]; exact ints_nil _, hb1⟩

set_option maxHeartbeats 400000 in
theorem rDoes_any (v y : Value) (t l : List Int) (d : Deed) (w : World) (hv : IntsAt w v t) (hy : IntsAt w y l) :
    Calls Try.prog 37 #[v, y, deedV d] w (GivesA t l [d] w) := by
  obtain ⟨d1, d2, d3⟩ := d
  have hB1 := (Below.refl w.heap.size w).alloc (Nat.le_refl _) (.cells #[.int .i64 d1, .int .i64 d2, .int .i64 d3] 43)
  have hB2 := hB1.alloc (by simp) (.cells #[.int .i64 d1, .int .i64 d2, .int .i64 d3] 43)
  have C := Lib.hid (rAfter_any v y _ t l [(d1, d2, d3)] _ (hv.below hB2) (hy.below hB2) (deeds_one (d1, d2, d3) (World.size_alloc _ _)))
  obtain ⟨_, _, rfl, _⟩ := hv
  obtain ⟨_, _, rfl, _⟩ := hy
  unfold deedV
  go_enter Try.func37, Try.ntmps37
  go_wp2_with fail
  refine C.out.mono ?_
  rintro e w1 ⟨ov, rfl, hov, hb1⟩
  have O := Lib.hid hov
  clear hov C
  generalize hre : runE t l [(d1, d2, d3)] = re at *
  go_wp2
  refine bodyPost_ret (v := .tuple #[ov, .int .i64 re]) (by simp [results, Try.results37, go_sem]) rfl ⟨ov, by rw [hre], O.out, hB2.trans (hb1.mono hB2.size)⟩

end Go.Proofs.Ytikcpfpeoofppaa
