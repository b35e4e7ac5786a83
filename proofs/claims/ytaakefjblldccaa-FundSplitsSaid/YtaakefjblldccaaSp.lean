/- Plain mathematics: a greater claim, a claim that is split. -/
import Derived.Test.YtaakefjblldccaaWat3
namespace Go.Proofs.Ytaakefjblldccaa
open Go.RowKit

theorem sumf_app (f : Int → Int) : ∀ A B : List Int, sumf f (A ++ B) = sumf f A + sumf f B
  | [], B => by simp [sumf]
  | x :: A, B => by rw [List.cons_append]; simp only [sumf]; rw [sumf_app f A B]; omega

theorem cap_mono {p q p' q' x : Int} (hq : 1 ≤ q) (hq' : 1 ≤ q') (h : p * q' ≤ p' * q) : cap p q x * q' ≤ cap p' q' x * q := by
  unfold cap
  have h1 : min (x * q) p * q' ≤ x * q * q' := Int.mul_le_mul_of_nonneg_right (by omega) (by omega)
  have h2 : min (x * q) p * q' ≤ p * q' := Int.mul_le_mul_of_nonneg_right (by omega) (by omega)
  rcases Int.le_total (x * q') p' with h3 | h3
  · rw [Int.min_eq_left h3, Int.mul_right_comm x q' q]; omega
  · rw [Int.min_eq_right h3]; omega

/-- Two levels, the same claims besides one place. -/
structure Two2 (R : List Int) (s s' p q p' q' X Y : Int) : Prop where
  hq : 1 ≤ q
  hq' : 1 ≤ q'
  h1 : sumf (cap p q) R + X = s * q
  h2 : sumf (cap p' q') R + Y = s' * q'
theorem Two2.lo {R : List Int} {s s' p q p' q' X Y : Int} (h : Two2 R s s' p q p' q' X Y) (hle : p * q' ≤ p' * q) : Y * q ≤ X * q' + (s' - s) * (q * q') := by
  have key := sumf_le (f := fun x => cap p q x * q') (g := fun x => cap p' q' x * q) (l := R) (fun x _ => cap_mono h.hq h.hq' hle)
  rw [sumf_mul, sumf_mul] at key
  have e1 : (sumf (cap p q) R + X) * q' = s * q * q' := by rw [h.h1]
  have e2 : (sumf (cap p' q') R + Y) * q = s' * q' * q := by rw [h.h2]
  grind
theorem Two2.hi {R : List Int} {s s' p q p' q' X Y : Int} (h : Two2 R s s' p q p' q' X Y) (hle : p' * q ≤ p * q') : X * q' + (s' - s) * (q * q') ≤ Y * q := by
  have key := sumf_le (f := fun x => cap p' q' x * q) (g := fun x => cap p q x * q') (l := R) (fun x _ => cap_mono h.hq' h.hq hle)
  rw [sumf_mul, sumf_mul] at key
  have e1 : (sumf (cap p q) R + X) * q' = s * q * q' := by rw [h.h1]
  have e2 : (sumf (cap p' q') R + Y) * q = s' * q' * q := by rw [h.h2]
  grind

/-- Equal awards: a greater claim gets no less. -/
theorem lev_more {R : List Int} {s p q p' q' x : Int} (h : Two2 R s s p q p' q' (cap p q x) (cap p' q' (x + 1))) : cap p q x * q' ≤ cap p' q' (x + 1) * q := by
  have hq := h.hq
  have hq' := h.hq'
  rcases Int.le_total (p * q') (p' * q) with hle | hle
  · have h1 := cap_mono (x := x) hq hq' hle
    have h2 : cap p' q' x ≤ cap p' q' (x + 1) := by unfold cap; rw [Int.add_mul]; omega
    have h3 := Int.mul_le_mul_of_nonneg_right h2 (show 0 ≤ q by omega)
    omega
  · have := h.hi hle
    rw [Int.sub_self, Int.zero_mul] at this
    omega
/-- .. and loses at most as much more as it claims more, of an estate that is greater by d. -/
theorem lev_loss {R : List Int} {s s' d p q p' q' x : Int} (hd : 1 ≤ d) (he : s' - s = d) (h : Two2 R s s' p q p' q' (cap p q x) (cap p' q' (x + 1))) : cap p' q' (x + 1) * q ≤ cap p q x * q' + d * (q * q') := by
  have hq := h.hq
  have hq' := h.hq'
  rcases Int.le_total (p * q') (p' * q) with hle | hle
  · have := h.lo hle
    rw [he] at this
    exact this
  · have h1 := cap_mono (x := x + 1) hq' hq hle
    have h2 : cap p q (x + 1) ≤ cap p q x + q := by unfold cap; rw [Int.add_mul]; omega
    have h3 := Int.mul_le_mul_of_nonneg_right h2 (show 0 ≤ q' by omega)
    rw [Int.add_mul] at h3
    have h4 : 1 * (q * q') ≤ d * (q * q') := Int.mul_le_mul_of_nonneg_right hd (Int.mul_nonneg (by omega) (by omega))
    omega
/-- Equal awards: two in its place get no less. -/
theorem lev_split {R : List Int} {s p q p' q' y z : Int} (hp : 0 ≤ p') (hy : 0 ≤ y) (hz : 0 ≤ z) (h : Two2 R s s p q p' q' (cap p q (y + z)) (cap p' q' y + cap p' q' z)) : cap p q (y + z) * q' ≤ (cap p' q' y + cap p' q' z) * q := by
  have hq := h.hq
  have hq' := h.hq'
  rcases Int.le_total (p * q') (p' * q) with hle | hle
  · have h1 := cap_mono (x := y + z) hq hq' hle
    have h2 : cap p' q' (y + z) ≤ cap p' q' y + cap p' q' z := by
      have a := Int.mul_nonneg hy (show 0 ≤ q' by omega)
      have b := Int.mul_nonneg hz (show 0 ≤ q' by omega)
      unfold cap; rw [Int.add_mul]; omega
    have h3 := Int.mul_le_mul_of_nonneg_right h2 (show 0 ≤ q by omega)
    omega
  · have := h.hi hle
    rw [Int.sub_self, Int.zero_mul] at this
    omega

/-- Claims around a place. -/
theorem lev_at {A B : List Int} {x e p q : Int} (h : IsLev (A ++ x :: B) e p q) : sumf (cap p q) (A ++ B) + cap p q x = e * q := by
  rw [← h.sum, sumf_app, sumf_app]
  simp only [sumf]
  omega
theorem lev_at2 {A B : List Int} {y z e p q : Int} (h : IsLev (A ++ y :: z :: B) e p q) : sumf (cap p q) (A ++ B) + (cap p q y + cap p q z) = e * q := by
  rw [← h.sum, sumf_app, sumf_app]
  simp only [sumf]
  omega
theorem tot_at (A B : List Int) (x : Int) : tot (A ++ x :: B) = tot A + x + tot B := by
  rw [tot_sumf, tot_sumf, tot_sumf, sumf_app]; simp only [sumf, id]; omega
theorem tot_at2 (A B : List Int) (y z : Int) : tot (A ++ y :: z :: B) = tot A + y + z + tot B := by
  rw [tot_sumf, tot_sumf, tot_sumf, sumf_app]; simp only [sumf, id]; omega

/-- A greater claim never gets less. -/
theorem share_grow {A B : List Int} {x e r : Int} (hA : ∀ y ∈ A, 0 ≤ y) (hB : ∀ y ∈ B, 0 ≤ y) (hx : 0 ≤ x) (he : 0 ≤ e) (hs : e ≤ tot (A ++ x :: B)) (hr : 1 ≤ r ∧ r ≤ 4) :
    frF (A ++ x :: B) e r x * frQ (A ++ (x + 1) :: B) e r ≤ frF (A ++ (x + 1) :: B) e r (x + 1) * frQ (A ++ x :: B) e r := by
  have t0 := tot_at A B x
  have t1 := tot_at A B (x + 1)
  have a0 := tot_nonneg hA
  have b0 := tot_nonneg hB
  have n0 : A ++ x :: B ≠ [] := by simp
  have n1 : A ++ (x + 1) :: B ≠ [] := by simp
  have ht : tot (A ++ (x + 1) :: B) = tot (A ++ x :: B) + 1 := by omega
  have hxt : x ≤ tot (A ++ x :: B) := by omega
  have ht0 : 0 ≤ tot (A ++ x :: B) := by omega
  have TW : ∀ e e' : Int, e ≤ tot (A ++ x :: B) → e' ≤ tot (A ++ (x + 1) :: B) → Two2 (A ++ B) e e' (levP (A ++ x :: B) e) (levQ (A ++ x :: B) e) (levP (A ++ (x + 1) :: B) e') (levQ (A ++ (x + 1) :: B) e') (cap (levP (A ++ x :: B) e) (levQ (A ++ x :: B) e) x) (cap (levP (A ++ (x + 1) :: B) e') (levQ (A ++ (x + 1) :: B) e') (x + 1)) :=
    fun e e' h h' => ⟨levQ_pos _ _, levQ_pos _ _, lev_at (lev_is n0 h), lev_at (lev_is n1 h')⟩
  have F := @lev_full (A ++ (x + 1) :: B)
  have L0 := @lev_is (A ++ x :: B) (2 * (tot (A ++ x :: B) - e)) n0
  have L1 := @lev_is (A ++ (x + 1) :: B) (2 * e) n1
  have q0 := levQ_pos (A ++ x :: B) (2 * (tot (A ++ x :: B) - e))
  obtain ⟨r1, r4⟩ := hr
  rcases show r = 1 ∨ r = 2 ∨ r = 3 ∨ r = 4 by omega with rfl | rfl | rfl | rfl
  · obtain ⟨e1, e2⟩ := fr_1 (A ++ x :: B) e
    obtain ⟨e3, e4⟩ := fr_1 (A ++ (x + 1) :: B) e
    rw [e1, e2, e3, e4]
    simp only
    rw [ht, Int.max_eq_right (show 1 ≤ tot (A ++ x :: B) + 1 by omega)]
    clear TW F L0 L1 q0
    generalize tot (A ++ x :: B) = T at *
    have h1 : x * (T + 1) ≤ (x + 1) * max 1 T := by
      by_cases h : 1 ≤ T
      · rw [Int.max_eq_right h, Int.mul_add, Int.add_mul]; omega
      · rw [Int.max_eq_left (by omega)]
        obtain rfl : T = 0 := by omega
        omega
    have h2 := Int.mul_le_mul_of_nonneg_right h1 he
    rw [Int.mul_right_comm x e, Int.mul_right_comm (x + 1) e]
    exact h2
  · obtain ⟨e1, e2⟩ := fr_2 (A ++ x :: B) e
    obtain ⟨e3, e4⟩ := fr_2 (A ++ (x + 1) :: B) e
    rw [e1, e2, e3, e4]
    exact lev_more (TW e e hs (by omega))
  · obtain ⟨e1, e2⟩ := fr_3 (A ++ x :: B) e
    obtain ⟨e3, e4⟩ := fr_3 (A ++ (x + 1) :: B) e
    rw [e1, e2, e3, e4]
    simp only
    rw [ht]
    have := lev_loss (d := 1) (by omega) (by omega) (TW (tot (A ++ x :: B) - e) (tot (A ++ x :: B) + 1 - e) (by omega) (by omega))
    grind
  · by_cases h2 : tot (A ++ x :: B) < 2 * e
    · by_cases h3 : tot (A ++ (x + 1) :: B) < 2 * e
      · obtain ⟨e1, e2⟩ := fr_4a (A ++ x :: B) e h2
        obtain ⟨e3, e4⟩ := fr_4a (A ++ (x + 1) :: B) e h3
        rw [e1, e2, e3, e4]
        simp only
        rw [ht]
        have := lev_loss (d := 2) (by omega) (by omega) (TW (2 * (tot (A ++ x :: B) - e)) (2 * (tot (A ++ x :: B) + 1 - e)) (by omega) (by omega))
        grind
      · obtain ⟨e1, e2⟩ := fr_4a (A ++ x :: B) e h2
        obtain ⟨e3, e4⟩ := fr_4b (A ++ (x + 1) :: B) e h3
        rw [e1, e2, e3, e4]
        simp only
        have he2 : 2 * e = tot (A ++ (x + 1) :: B) := by omega
        have f1 := F (p := levP (A ++ (x + 1) :: B) (2 * e)) (q := levQ (A ++ (x + 1) :: B) (2 * e)) (by rw [← he2]; exact L1 (by omega)) (x + 1) (by simp)
        rw [f1]
        have l0 := lev_at (L0 (by omega))
        have hq1 := levQ_pos (A ++ (x + 1) :: B) (2 * e)
        generalize levP (A ++ x :: B) (2 * (tot (A ++ x :: B) - e)) = p at *
        generalize levQ (A ++ x :: B) (2 * (tot (A ++ x :: B) - e)) = q at *
        generalize levQ (A ++ (x + 1) :: B) (2 * e) = q' at *
        have hc : sumf (cap p q) (A ++ B) ≤ sumf (fun y => y * q) (A ++ B) := sumf_le (fun y _ => by unfold cap; omega)
        rw [sumf_id_mul, show tot (A ++ B) = tot A + tot B by rw [tot_sumf, tot_sumf, tot_sumf, sumf_app]] at hc
        have hw : 2 * (tot (A ++ x :: B) - e) = tot A + tot B + x - 1 := by omega
        rw [hw] at l0
        have hq' : 1 ≤ q' := hq1
        have k : x * (2 * q) - cap p q x ≤ (x + 1) * q := by grind
        have := Int.mul_le_mul_of_nonneg_right k (show 0 ≤ 2 * q' by omega)
        rw [show (x + 1) * q * (2 * q') = (x + 1) * q' * (2 * q) by grind] at this
        exact this
    · have h3 : ¬ tot (A ++ (x + 1) :: B) < 2 * e := by omega
      obtain ⟨e1, e2⟩ := fr_4b (A ++ x :: B) e h2
      obtain ⟨e3, e4⟩ := fr_4b (A ++ (x + 1) :: B) e h3
      rw [e1, e2, e3, e4]
      have := lev_more (TW (2 * e) (2 * e) (by omega) (by omega))
      rw [Int.mul_left_comm, Int.mul_left_comm (cap _ _ (x + 1))]
      omega

/-- Two in its place: in proportion the same, under equal awards no less, under equal losses no more. -/
theorem share_split {A B : List Int} {y z e r : Int} (hA : ∀ y ∈ A, 0 ≤ y) (hB : ∀ y ∈ B, 0 ≤ y) (hy : 0 ≤ y) (hz : 0 ≤ z) (he : 0 ≤ e) (hs : e ≤ tot (A ++ (y + z) :: B)) :
    (r = 1 → (frF (A ++ y :: z :: B) e r y + frF (A ++ y :: z :: B) e r z) * frQ (A ++ (y + z) :: B) e r = frF (A ++ (y + z) :: B) e r (y + z) * frQ (A ++ y :: z :: B) e r) ∧
    (r = 2 → frF (A ++ (y + z) :: B) e r (y + z) * frQ (A ++ y :: z :: B) e r ≤ (frF (A ++ y :: z :: B) e r y + frF (A ++ y :: z :: B) e r z) * frQ (A ++ (y + z) :: B) e r) ∧
    (r = 3 → (frF (A ++ y :: z :: B) e r y + frF (A ++ y :: z :: B) e r z) * frQ (A ++ (y + z) :: B) e r ≤ frF (A ++ (y + z) :: B) e r (y + z) * frQ (A ++ y :: z :: B) e r) := by
  have t0 := tot_at A B (y + z)
  have t1 := tot_at2 A B y z
  have a0 := tot_nonneg hA
  have b0 := tot_nonneg hB
  have n0 : A ++ (y + z) :: B ≠ [] := by simp
  have n1 : A ++ y :: z :: B ≠ [] := by simp
  have ht : tot (A ++ y :: z :: B) = tot (A ++ (y + z) :: B) := by omega
  have h2 : ∀ w ∈ A ++ y :: z :: B, 0 ≤ w := fun w hw => by
    simp only [List.mem_append, List.mem_cons] at hw
    rcases hw with h | rfl | rfl | h
    · exact hA w h
    · exact hy
    · exact hz
    · exact hB w h
  have TW : ∀ e : Int, 0 ≤ e → e ≤ tot (A ++ (y + z) :: B) → Two2 (A ++ B) e e (levP (A ++ (y + z) :: B) e) (levQ (A ++ (y + z) :: B) e) (levP (A ++ y :: z :: B) e) (levQ (A ++ y :: z :: B) e) (cap (levP (A ++ (y + z) :: B) e) (levQ (A ++ (y + z) :: B) e) (y + z)) (cap (levP (A ++ y :: z :: B) e) (levQ (A ++ y :: z :: B) e) y + cap (levP (A ++ y :: z :: B) e) (levQ (A ++ y :: z :: B) e) z) :=
    fun e _ h => ⟨levQ_pos _ _, levQ_pos _ _, lev_at (lev_is n0 h), lev_at2 (lev_is n1 (by omega))⟩
  refine ⟨?_, ?_, ?_⟩
  · rintro rfl
    obtain ⟨e1, e2⟩ := fr_1 (A ++ (y + z) :: B) e
    obtain ⟨e3, e4⟩ := fr_1 (A ++ y :: z :: B) e
    rw [e1, e2, e3, e4, ht]
    simp only
    rw [Int.add_mul y z e]
  · rintro rfl
    obtain ⟨e1, e2⟩ := fr_2 (A ++ (y + z) :: B) e
    obtain ⟨e3, e4⟩ := fr_2 (A ++ y :: z :: B) e
    rw [e1, e2, e3, e4]
    exact lev_split (levP_nonneg h2 he).1 hy hz (TW e he hs)
  · rintro rfl
    obtain ⟨e1, e2⟩ := fr_3 (A ++ (y + z) :: B) e
    obtain ⟨e3, e4⟩ := fr_3 (A ++ y :: z :: B) e
    rw [e1, e2, e3, e4, ht]
    simp only
    have := lev_split (levP_nonneg h2 (show 0 ≤ tot (A ++ (y + z) :: B) - e by omega)).1 hy hz (TW (tot (A ++ (y + z) :: B) - e) (by omega) (by omega))
    grind

/-- Sums and differences of reduced ones. -/
def subR (a b : Rat2) : Rat2 := red (a.1 * b.2 - b.1 * a.2) (a.2 * b.2)
def addR (a b : Rat2) : Rat2 := red (a.1 * b.2 + b.1 * a.2) (a.2 * b.2)
theorem red_d {n d : Int} (h : 1 ≤ d) : 1 ≤ (red n d).2 := by obtain ⟨_, _, _, _, h3, _⟩ := red_spec n d h; exact h3
theorem mul_one_le {a b : Int} (h : 1 ≤ a) (k : 1 ≤ b) : 1 ≤ a * b := by have := Int.mul_pos (show 0 < a by omega) (show 0 < b by omega); omega
theorem subR_red {a p b q : Int} (hp : 1 ≤ p) (hq : 1 ≤ q) : subR (red a p) (red b q) = red (a * q - b * p) (p * q) := by
  have h1 := red_mul a p hp
  have h2 := red_mul b q hq
  have d1 := red_d (n := a) hp
  have d2 := red_d (n := b) hq
  unfold subR
  generalize red a p = x at *
  generalize red b q = y at *
  refine red_eq (mul_one_le d1 d2) (mul_one_le hp hq) ?_
  grind
theorem addR_red {a p b q : Int} (hp : 1 ≤ p) (hq : 1 ≤ q) : addR (red a p) (red b q) = red (a * q + b * p) (p * q) := by
  have h1 := red_mul a p hp
  have h2 := red_mul b q hq
  have d1 := red_d (n := a) hp
  have d2 := red_d (n := b) hq
  unfold addR
  generalize red a p = x at *
  generalize red b q = y at *
  refine red_eq (mul_one_le d1 d2) (mul_one_le hp hq) ?_
  grind
theorem red_neg {a p : Int} (hp : 1 ≤ p) : red (-(red a p).1) (red a p).2 = red (-a) p := by
  have h1 := red_mul a p hp
  have d1 := red_d (n := a) hp
  generalize red a p = x at *
  refine red_eq d1 hp ?_
  grind
/-- Two roads to what a claim that is split gives. -/
theorem split_two {a p b c q : Int} (hp : 1 ≤ p) (hq : 1 ≤ q) :
    red (-(subR (subR (red a p) (red b q)) (red c q)).1) (subR (subR (red a p) (red b q)) (red c q)).2 = subR (addR (red b q) (red c q)) (red a p) := by
  rw [subR_red hp hq, subR_red (mul_one_le hp hq) hq, red_neg (mul_one_le (mul_one_le hp hq) hq), addR_red hq hq, subR_red (mul_one_le hq hq) hp]
  refine red_eq (mul_one_le (mul_one_le hp hq) hq) (mul_one_le (mul_one_le hq hq) hp) ?_
  grind
theorem red_sign {n d : Int} (h : 1 ≤ d) : (0 ≤ (red n d).1 ↔ 0 ≤ n) ∧ ((red n d).1 ≤ 0 ↔ n ≤ 0) := by
  obtain ⟨g, hg, h1, _, _, _⟩ := red_spec n d h
  generalize (red n d).1 = a at *
  subst h1
  constructor
  · constructor
    · intro ha; exact Int.mul_nonneg (by omega) ha
    · intro ha
      by_cases hn : 0 ≤ a
      · exact hn
      · have := Int.mul_lt_mul_of_pos_left (show a < 0 by omega) (show 0 < g by omega); omega
  · constructor
    · intro ha
      have := Int.mul_le_mul_of_nonneg_left ha (show 0 ≤ g by omega); omega
    · intro ha
      by_cases hn : a ≤ 0
      · exact hn
      · have := Int.mul_pos (show 0 < g by omega) (show 0 < a by omega); omega

end Go.Proofs.Ytaakefjblldccaa
