/- Texts of this claim, laid together: FdU, FdLawC, FdLawB, FdWat3. -/
import Derived.Test.YtdfkaijeppdhaaaGreatDoorZHq29
import Derived.Test.YtdfkaijeppdhaaaGreatDoorZHq24
import Derived.Test.YtdfkaijeppdhaaaGreatDoorZHq25

/- Contracts: the greatest and the least of ratios. -/
namespace Go.Proofs.YtdfkaijeppdhaaaGreatDoor.Fd
open Go.RowKit
/-- The result's block, and the box of the best so far. -/
structure MxAt (w : World) (r : Rat2) (wr : World) : Prop where
  c0 : wr.cell? ⟨w.heap.size, 0, none⟩ = some (.int .i64 0)
  c1 : wr.cell? ⟨w.heap.size, 1, none⟩ = some (.int .i64 0)
  f0 : wr.frozen? ⟨w.heap.size, 0, none⟩ = false
  f1 : wr.frozen? ⟨w.heap.size, 1, none⟩ = false
  b0 : wr.cell? ⟨w.heap.size + 1, 0, none⟩ = some (.int .i64 r.1)
  b1 : wr.cell? ⟨w.heap.size + 1, 1, none⟩ = some (.int .i64 r.2)
  g0 : wr.frozen? ⟨w.heap.size + 1, 0, none⟩ = false
  g1 : wr.frozen? ⟨w.heap.size + 1, 1, none⟩ = false
  bel : Below w.heap.size w wr
  sz : w.heap.size + 1 < wr.heap.size

theorem MxAt.below {w : World} {r : Rat2} {wr w2 : World} (h : MxAt w r wr) (hb : Below wr.heap.size wr w2) : MxAt w r w2 := by
  have h1 := h.sz
  have hs := hb.size
  have h0 : w.heap.size < wr.heap.size := by omega
  exact ⟨(hb.cell (p := ⟨w.heap.size, 0, none⟩) h0).trans h.c0, (hb.cell (p := ⟨w.heap.size, 1, none⟩) h0).trans h.c1, (hb.frozen (p := ⟨w.heap.size, 0, none⟩) h0).trans h.f0, (hb.frozen (p := ⟨w.heap.size, 1, none⟩) h0).trans h.f1,
    (hb.cell (p := ⟨w.heap.size + 1, 0, none⟩) h1).trans h.b0, (hb.cell (p := ⟨w.heap.size + 1, 1, none⟩) h1).trans h.b1, (hb.frozen (p := ⟨w.heap.size + 1, 0, none⟩) h1).trans h.g0, (hb.frozen (p := ⟨w.heap.size + 1, 1, none⟩) h1).trans h.g1,
    below_trans h.bel hb, by omega⟩
theorem MxAt.stored {w : World} {r : Rat2} {wr : World} (h : MxAt w r wr) (x : Rat2) : MxAt w x ((wr.setCell ⟨w.heap.size + 1, 0, none⟩ (.int .i64 x.1)).setCell ⟨w.heap.size + 1, 1, none⟩ (.int .i64 x.2)) := by
  obtain ⟨c0, c1, f0, f1, b0, b1, g0, g1, bel, sz⟩ := h
  exact ⟨by simp [go_sem, c0], by simp [go_sem, c1], by simp [go_sem, f0], by simp [go_sem, f1], by simp [go_sem, b0], by simp [go_sem, b1], by simp [go_sem, g0], by simp [go_sem, g1],
    (bel.setCell (p := ⟨w.heap.size + 1, 0, none⟩) (Nat.le_succ _) _).setCell (p := ⟨w.heap.size + 1, 1, none⟩) (Nat.le_succ _) _, by simpa using sz⟩

theorem MxAt.start (w : World) (r : Rat2) : MxAt w r ((w.alloc (.cells #[.int .i64 0, .int .i64 0] 199)).alloc (.cells #[.int .i64 r.1, .int .i64 r.2] 199)) := by
  have hs : (w.alloc (.cells #[.int .i64 0, .int .i64 0] 199)).heap.size = w.heap.size + 1 := by simp
  refine ⟨by simp, by simp, by simp, by simp, ?_, ?_, ?_, ?_, ((Below.refl _ _).alloc (Nat.le_refl _) _).alloc (by simp) _, by simp⟩ <;> rw [← hs] <;> simp

end Go.Proofs.YtdfkaijeppdhaaaGreatDoor.Fd

/- The greatest equal award and loss, of both; the walk of the law FundLevels. -/
namespace Go.Proofs.YtdfkaijeppdhaaaGreatDoor.Fd
open Go.RowKit
/-- A box of a ratio. -/
structure BoxR (w : World) (b : Nat) (r : Rat2) : Prop where
  c0 : w.cell? ⟨b, 0, none⟩ = some (.int .i64 r.1)
  c1 : w.cell? ⟨b, 1, none⟩ = some (.int .i64 r.2)
theorem BoxR.below {w w' : World} {b : Nat} {r : Rat2} (h : BoxR w b r) (hb : Below w.heap.size w w') : BoxR w' b r := ⟨keep_cell hb h.c0, keep_cell hb h.c1⟩
theorem BoxR.new (w : World) (r : Rat2) (t : TypeId) : BoxR (w.alloc (.cells #[.int .i64 r.1, .int .i64 r.2] t)) w.heap.size r := ⟨by simp, by simp⟩
end Go.Proofs.YtdfkaijeppdhaaaGreatDoor.Fd

/- The walk of the law FundShares. -/
namespace Go.Proofs.YtdfkaijeppdhaaaGreatDoor.Fd
open Go.RowKit
theorem shareV_len (c : List Int) (n r : Int) : (shareV c n r).length ≤ 9223372036854775807 := by
  unfold shareV
  split
  · rename_i h
    obtain ⟨ha, h1, h2⟩ := shareE_ok h
    obtain ⟨hc, h3, h4⟩ := askE_ok2 ha
    obtain ⟨f, Q, S⟩ := hc.shr r h3 h4
    rw [S.aw, List.length_map]
    have := hc.hi
    omega
  · simp

end Go.Proofs.YtdfkaijeppdhaaaGreatDoor.Fd

/- Plain mathematics: awards by a rule as fractions: monotone in the estate; two sides. -/
namespace Go.Proofs.YtdfkaijeppdhaaaGreatDoor.Fd
theorem red_in {x f Q : Int} (hQ : 1 ≤ Q) (h0 : 0 ≤ f) (h1 : f ≤ x * Q) : 1 ≤ (red f Q).2 ∧ (red f Q).2 ≤ Q ∧ 0 ≤ (red f Q).1 ∧ (red f Q).1 ≤ x * (red f Q).2 := by
  have a := red_pos hQ h0
  have b := red_bd (n := f) (d := Q) (B := f) hQ (by omega) (Int.le_refl _)
  have c := (red_le (n := f) (d := Q) (m := x) (k := 1) hQ).2 (by omega)
  omega

/-- The level of the sorted claims. -/
def levP (c : List Int) (e : Int) : Int := (rawLev (c.mergeSort (fun a b => decide (a ≤ b))) e).1
def levQ (c : List Int) (e : Int) : Int := (rawLev (c.mergeSort (fun a b => decide (a ≤ b))) e).2
theorem levQ_pos (c : List Int) (e : Int) : 1 ≤ levQ c e := rawLev_q _ _
theorem lev_is {c : List Int} {e : Int} (h0 : c ≠ []) (hs : e ≤ tot c) : IsLev c e (levP c e) (levQ c e) := eqW_lev e h0 hs
theorem eqW_frac (c : List Int) (e : Int) : eqW c e = c.map fun x => red (cap (levP c e) (levQ c e) x) (levQ c e) := rfl
theorem levP_nonneg {c : List Int} {e : Int} (hc : ∀ x ∈ c, 0 ≤ x) (he : 0 ≤ e) : 0 ≤ levP c e ∧ levQ c e ≤ c.length + 1 := by
  have hp := sort_perm c
  have hb := rawLev_bd (c.mergeSort (fun a b => decide (a ≤ b))) e (fun x hx => hc x (hp.mem_iff.1 hx)) he
  have hl := hp.length_eq
  unfold levP levQ
  omega

/-- Numerators, and the denominator, of awards by a rule. -/
def frF (c : List Int) (e r x : Int) : Int :=
  if r = 1 then x * e else if r = 2 then cap (levP c e) (levQ c e) x else if r = 3 then x * levQ c (tot c - e) - cap (levP c (tot c - e)) (levQ c (tot c - e)) x
  else if 2 * e > tot c then x * (2 * levQ c (2 * (tot c - e))) - cap (levP c (2 * (tot c - e))) (levQ c (2 * (tot c - e))) x else cap (levP c (2 * e)) (levQ c (2 * e)) x
def frQ (c : List Int) (e r : Int) : Int :=
  if r = 1 then max 1 (tot c) else if r = 2 then levQ c e else if r = 3 then levQ c (tot c - e)
  else if 2 * e > tot c then 2 * levQ c (2 * (tot c - e)) else 2 * levQ c (2 * e)

theorem share_frac (c : List Int) (e r : Int) : shareL c e r = c.map fun x => red (frF c e r x) (frQ c e r) := by
  have h2 := levQ_pos c (tot c - e)
  have h3 := levQ_pos c (2 * (tot c - e))
  have h4 := levQ_pos c (2 * e)
  unfold shareL frF frQ
  split
  · rfl
  split
  · rfl
  split
  · rw [eqW_frac, less_lev c _ h2]
  split
  · rw [eqW_frac, half_lev c _ h3, less_lev c _ (by omega)]
  · rw [eqW_frac, half_lev c _ h4]

theorem fr_1 (c : List Int) (e : Int) : frF c e 1 = (fun x => x * e) ∧ frQ c e 1 = max 1 (tot c) := ⟨by funext x; rfl, rfl⟩
theorem fr_2 (c : List Int) (e : Int) : frF c e 2 = cap (levP c e) (levQ c e) ∧ frQ c e 2 = levQ c e := ⟨by funext x; rfl, rfl⟩
theorem fr_3 (c : List Int) (e : Int) : frF c e 3 = (fun x => x * levQ c (tot c - e) - cap (levP c (tot c - e)) (levQ c (tot c - e)) x) ∧ frQ c e 3 = levQ c (tot c - e) := ⟨by funext x; rfl, rfl⟩
theorem fr_4a (c : List Int) (e : Int) (h : tot c < 2 * e) : frF c e 4 = (fun x => x * (2 * levQ c (2 * (tot c - e))) - cap (levP c (2 * (tot c - e))) (levQ c (2 * (tot c - e))) x) ∧ frQ c e 4 = 2 * levQ c (2 * (tot c - e)) :=
  ⟨by funext x; unfold frF; rw [if_neg (by omega), if_neg (by omega), if_neg (by omega), if_pos h], by unfold frQ; rw [if_neg (by omega), if_neg (by omega), if_neg (by omega), if_pos h]⟩
theorem fr_4b (c : List Int) (e : Int) (h : ¬ tot c < 2 * e) : frF c e 4 = cap (levP c (2 * e)) (levQ c (2 * e)) ∧ frQ c e 4 = 2 * levQ c (2 * e) :=
  ⟨by funext x; unfold frF; rw [if_neg (by omega), if_neg (by omega), if_neg (by omega), if_neg h], by unfold frQ; rw [if_neg (by omega), if_neg (by omega), if_neg (by omega), if_neg h]⟩

theorem share_shr2 {c : List Int} {e r : Int} (h0 : c ≠ []) (hc : ∀ x ∈ c, 0 ≤ x) (hn : c.length ≤ 8) (ht : tot c ≤ 8000) (he : 0 ≤ e) (hs : e ≤ tot c) (hr : 1 ≤ r ∧ r ≤ 4) : Shr c e (shareL c e r) (frF c e r) (frQ c e r) := by
  have hF := share_frac c e r
  have h4 : r = 1 ∨ r = 2 ∨ r = 3 ∨ r = 4 := by omega
  rcases h4 with rfl | rfl | rfl | rfl
  · obtain ⟨e1, e2⟩ := fr_1 c e
    rw [e1, e2] at hF ⊢
    refine ⟨by omega, by omega, hF, ?_, fun x hx => Int.mul_nonneg (hc x hx) he, fun x hx => ?_, fun x hx y hy hxy => ?_⟩
    · rw [sumf_id_mul, Int.mul_comm e]
      by_cases h : 1 ≤ tot c
      · rw [Int.max_eq_right h]
      · have : e = 0 := by omega
        rw [this]; simp
    · exact Int.mul_le_mul_of_nonneg_left (by omega) (hc x hx)
    · refine ⟨Int.mul_le_mul_of_nonneg_right hxy he, ?_⟩
      rw [← Int.mul_sub, ← Int.mul_sub]
      exact Int.mul_le_mul_of_nonneg_right hxy (by omega)
  · obtain ⟨e1, e2⟩ := fr_2 c e
    rw [e1, e2] at hF ⊢
    have hl := lev_is h0 hs
    obtain ⟨hp, hq9⟩ := levP_nonneg hc he
    have hq := hl.hq
    exact ⟨hq, by omega, hF, hl.sum, fun x hx => (cap_facts hq hp (hc x hx) (Int.le_refl x)).1, fun x hx => (cap_facts hq hp (hc x hx) (Int.le_refl x)).2.1, fun x hx y _ hxy => (cap_facts hq hp (hc x hx) hxy).2.2⟩
  · obtain ⟨e1, e2⟩ := fr_3 c e
    rw [e1, e2] at hF ⊢
    have hl := lev_is (e := tot c - e) h0 (by omega)
    obtain ⟨hp, hq9⟩ := levP_nonneg (e := tot c - e) hc (by omega)
    have hq := hl.hq
    generalize levP c (tot c - e) = p at *
    generalize levQ c (tot c - e) = q at *
    refine ⟨hq, by omega, hF, ?_, fun x hx => ?_, fun x hx => ?_, fun x hx y _ hxy => ?_⟩
    · rw [sumf_sub, sumf_id_mul, hl.sum, Int.sub_mul]; omega
    · have := (cap_facts hq hp (hc x hx) (Int.le_refl x)).2.1; omega
    · have := (cap_facts hq hp (hc x hx) (Int.le_refl x)).1; omega
    · have := (cap_facts hq hp (hc x hx) hxy).2.2
      have h2 : x * q ≤ y * q := Int.mul_le_mul_of_nonneg_right hxy (by omega)
      omega
  · by_cases h2e : tot c < 2 * e
    · obtain ⟨e1, e2⟩ := fr_4a c e h2e
      rw [e1, e2] at hF ⊢
      have hl := lev_is (e := 2 * (tot c - e)) h0 (by omega)
      obtain ⟨hp, hq9⟩ := levP_nonneg (e := 2 * (tot c - e)) hc (by omega)
      have hq := hl.hq
      generalize levP c (2 * (tot c - e)) = p at *
      generalize levQ c (2 * (tot c - e)) = q at *
      refine ⟨by omega, by omega, hF, ?_, fun x hx => ?_, fun x hx => ?_, fun x hx y _ hxy => ?_⟩
      · rw [sumf_sub, sumf_id_mul, hl.sum, Int.mul_left_comm (tot c) 2 q, Int.mul_left_comm e 2 q, Int.mul_assoc, Int.sub_mul]; omega
      · have := (cap_facts hq hp (hc x hx) (Int.le_refl x)).2.1
        have h1 : 0 ≤ x * q := Int.mul_nonneg (hc x hx) (by omega)
        rw [Int.mul_left_comm]; omega
      · have := (cap_facts hq hp (hc x hx) (Int.le_refl x)).1; omega
      · have := (cap_facts hq hp (hc x hx) hxy).2.2
        have h2 : x * q ≤ y * q := Int.mul_le_mul_of_nonneg_right hxy (by omega)
        rw [Int.mul_left_comm x, Int.mul_left_comm y]; omega
    · obtain ⟨e1, e2⟩ := fr_4b c e h2e
      rw [e1, e2] at hF ⊢
      have hl := lev_is (e := 2 * e) h0 (by omega)
      obtain ⟨hp, hq9⟩ := levP_nonneg (e := 2 * e) hc (by omega)
      have hq := hl.hq
      generalize levP c (2 * e) = p at *
      generalize levQ c (2 * e) = q at *
      refine ⟨by omega, by omega, hF, ?_, fun x hx => (cap_facts hq hp (hc x hx) (Int.le_refl x)).1, fun x hx => ?_, fun x hx y _ hxy => ?_⟩
      · rw [hl.sum, Int.mul_left_comm e 2 q, Int.mul_assoc]
      · have := (cap_facts hq hp (hc x hx) (Int.le_refl x)).2.1
        have h1 : 0 ≤ x * q := Int.mul_nonneg (hc x hx) (by omega)
        rw [Int.mul_left_comm]; omega
      · have := (cap_facts hq hp (hc x hx) hxy).2.2
        have h2 : x * q ≤ y * q := Int.mul_le_mul_of_nonneg_right hxy (by omega)
        rw [Int.mul_left_comm x, Int.mul_left_comm y]; omega

end Go.Proofs.YtdfkaijeppdhaaaGreatDoor.Fd
