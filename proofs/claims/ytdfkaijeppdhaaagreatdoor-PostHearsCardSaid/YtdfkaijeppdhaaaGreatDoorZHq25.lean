/- Texts of this claim, laid together: FdE, FdWat. -/
import Derived.Test.YtdfkaijeppdhaaaGreatDoorZHq24

/- Contracts: whether ratios add up to a whole number, of both. -/
namespace Go.Proofs.YtdfkaijeppdhaaaGreatDoor.Fd
open Go.RowKit
/-- A slice value that reads as a list of ratios. -/
def RatsAt (w : World) (v : Value) (l : List Rat2) : Prop :=
  ∃ (a : Option Addr) (cap : Nat), v = .slice a l.length cap ∧ (l.length ≤ 9223372036854775807 ∧ l.length ≤ cap) ∧
    (0 < l.length → ∃ b off, a = some ⟨b, off, none⟩ ∧ ∀ j, j < l.length → w.cell? ⟨b, off + j * 2, none⟩ = some (.int .i64 (l.getD j (0, 0)).1) ∧
      w.cell? ⟨b, off + j * 2 + 1, none⟩ = some (.int .i64 (l.getD j (0, 0)).2))

theorem RatsAt.below {w w' : World} {v : Value} {l : List Rat2} (h : RatsAt w v l) (hb : Below w.heap.size w w') : RatsAt w' v l := by
  obtain ⟨a, cap, rfl, hl, h⟩ := h
  refine ⟨a, cap, rfl, hl, fun h0 => ?_⟩
  obtain ⟨b, off, ha, hc⟩ := h h0
  exact ⟨b, off, ha, fun j hj => ⟨keep_cell hb (hc j hj).1, keep_cell hb (hc j hj).2⟩⟩

theorem rats_cell {w : World} {v : Value} {l : List Rat2} (h : RatsAt w v l) (h0 : 0 < l.length) :
    ∃ b off cap, l.length ≤ cap ∧ v = .slice (some ⟨b, off, none⟩) l.length cap ∧ ∀ j, j < l.length → w.cell? ⟨b, off + j * 2, none⟩ = some (.int .i64 (l.getD j (0, 0)).1) ∧ w.cell? ⟨b, off + j * 2 + 1, none⟩ = some (.int .i64 (l.getD j (0, 0)).2) := by
  obtain ⟨a, cap, rfl, hl, hq⟩ := h
  obtain ⟨b, off, rfl, hc⟩ := hq h0
  exact ⟨b, off, cap, hl.2, rfl, hc⟩

theorem getD_mem2 {l : List Rat2} {k : Nat} (hk : k < l.length) : l.getD k (0, 0) ∈ l := by
  rw [List.getD_eq_getElem?_getD, List.getElem?_eq_getElem hk]; simp

end Go.Proofs.YtdfkaijeppdhaaaGreatDoor.Fd

/- Plain mathematics: ratios in lowest terms; the level of equal awards, and awards by a rule as numerators over one denominator. -/
namespace Go.Proofs.YtdfkaijeppdhaaaGreatDoor.Fd
/-- A ratio in lowest terms, as a pair. -/
def red (n d : Int) : Rat2 := (rn n d, rd n d)

theorem gcd_pos_d {n d : Int} (h : 1 ≤ d) : 0 < (Int.gcd n d : Int) := by
  have : Int.gcd n d ≠ 0 := fun h0 => by
    rw [Int.gcd_eq_zero_iff] at h0
    omega
  omega

theorem red_spec (n d : Int) (h : 1 ≤ d) : ∃ g : Int, 1 ≤ g ∧ n = g * (red n d).1 ∧ d = g * (red n d).2 ∧ 1 ≤ (red n d).2 ∧ Int.gcd (red n d).1 (red n d).2 = 1 := by
  have hg := gcd_pos_d (n := n) h
  have e1 : (Int.gcd n d : Int) * rn n d = n := Int.mul_ediv_cancel' (Int.gcd_dvd_left _ _)
  have e2 : (Int.gcd n d : Int) * rd n d = d := Int.mul_ediv_cancel' (Int.gcd_dvd_right _ _)
  refine ⟨_, hg, e1.symm, e2.symm, ?_, ?_⟩
  · refine Int.not_lt.1 fun hlt => ?_
    have : (Int.gcd n d : Int) * rd n d ≤ 0 := Int.mul_nonpos_of_nonneg_of_nonpos (by omega) (by show rd n d ≤ 0; unfold red at hlt; simp only at hlt; omega)
    omega
  · have := Int.gcd_ediv_gcd_ediv_gcd (i := n) (j := d) (by omega)
    exact this

theorem red_mul (n d : Int) (h : 1 ≤ d) : (red n d).1 * d = n * (red n d).2 := by
  obtain ⟨g, _, h1, h2, _, _⟩ := red_spec n d h
  generalize (red n d).1 = a at *
  generalize (red n d).2 = b at *
  subst h1 h2
  rw [Int.mul_left_comm, Int.mul_assoc]

theorem cancel_r {a b q : Int} (hq : 1 ≤ q) (h : a * q = b * q) : a = b := Int.eq_of_mul_eq_mul_right (by omega) h

theorem dvd_of_co {a b c : Int} (h : a ∣ b * c) (hg : Int.gcd a b = 1) : a ∣ c := by
  rw [← Int.natAbs_dvd_natAbs] at h ⊢
  rw [Int.natAbs_mul] at h
  exact Nat.Coprime.dvd_of_dvd_mul_left hg h

theorem coprime_eq {a b a' b' : Int} (hb : 1 ≤ b) (hb' : 1 ≤ b') (h1 : Int.gcd a b = 1) (h2 : Int.gcd a' b' = 1) (h : a * b' = a' * b) : a = a' ∧ b = b' := by
  have d1 : b ∣ b' := by
    exact dvd_of_co (b := a) ⟨a', by rw [h, Int.mul_comm]⟩ (by rwa [Int.gcd_comm])
  have d2 : b' ∣ b := by
    exact dvd_of_co (b := a') ⟨a, by rw [← h, Int.mul_comm]⟩ (by rwa [Int.gcd_comm])
  have e : b = b' := Int.dvd_antisymm (by omega) (by omega) d1 d2
  subst e
  exact ⟨cancel_r hb h, rfl⟩

theorem red_eq {n d n' d' : Int} (h : 1 ≤ d) (h' : 1 ≤ d') (e : n * d' = n' * d) : red n d = red n' d' := by
  obtain ⟨g, hg, h1, h2, h3, h4⟩ := red_spec n d h
  obtain ⟨g', hg', k1, k2, k3, k4⟩ := red_spec n' d' h'
  have key : (red n d).1 * (red n' d').2 = (red n' d').1 * (red n d).2 := by
    generalize (red n d).1 = a at *
    generalize (red n d).2 = b at *
    generalize (red n' d').1 = a' at *
    generalize (red n' d').2 = b' at *
    subst h1 h2 k1 k2
    have : (a * b') * (g * g') = (a' * b) * (g * g') := by
      rw [show g * a * (g' * b') = (a * b') * (g * g') by
        rw [Int.mul_comm g a, Int.mul_assoc, Int.mul_left_comm g g' b', ← Int.mul_assoc g' g b', Int.mul_comm (g' * g) b', Int.mul_comm g' g, Int.mul_assoc],
        show g' * a' * (g * b) = (a' * b) * (g * g') by
        rw [Int.mul_comm g' a', Int.mul_assoc, Int.mul_left_comm g' g b, ← Int.mul_assoc g g' b, Int.mul_comm (g * g') b, Int.mul_assoc]] at e
      exact e
    exact Int.eq_of_mul_eq_mul_right (by have := Int.mul_pos (show 0 < g by omega) (show 0 < g' by omega); omega) this
  obtain ⟨a, b⟩ := coprime_eq h3 k3 h4 k4 key
  exact Prod.ext a b

theorem red_one (x : Int) : red x 1 = (x, 1) := by
  unfold red rn rd
  rw [Int.gcd_one_right]
  simp
theorem red_whole (x q : Int) (hq : 1 ≤ q) : red (x * q) q = (x, 1) := by
  rw [← red_one x]
  exact red_eq hq (by omega) (by rw [Int.mul_one])
theorem red_le {n d m k : Int} (h : 1 ≤ d) : (red n d).1 * k ≤ m * (red n d).2 ↔ n * k ≤ m * d := by
  obtain ⟨g, hg, h1, h2, h3, _⟩ := red_spec n d h
  generalize (red n d).1 = a at *
  generalize (red n d).2 = b at *
  subst h1 h2
  rw [Int.mul_assoc, Int.mul_left_comm m g b]
  constructor
  · intro h; exact Int.mul_le_mul_of_nonneg_left h (by omega)
  · intro h; exact Int.le_of_mul_le_mul_left h (by omega)

/-- A sum over a list. -/
def sumf (f : Int → Int) : List Int → Int
  | [] => 0
  | x :: l => f x + sumf f l

theorem tot_from (c : List Int) : ∀ s, c.foldl (· + ·) s = s + sumf id c := by
  induction c with
  | nil => intro s; simp [sumf]
  | cons x l ih => intro s; simp only [List.foldl_cons, sumf, id]; rw [ih]; omega
theorem tot_sumf (c : List Int) : tot c = sumf id c := by
  unfold tot; rw [tot_from]; omega
theorem sumf_perm {f : Int → Int} {a b : List Int} (h : a.Perm b) : sumf f a = sumf f b := by
  induction h with
  | nil => rfl
  | cons x _ ih => simp only [sumf, ih]
  | swap x y l => simp only [sumf]; omega
  | trans _ _ h1 h2 => exact h1.trans h2
theorem sumf_le {f g : Int → Int} : ∀ {l : List Int}, (∀ x ∈ l, f x ≤ g x) → sumf f l ≤ sumf g l
  | [], _ => Int.le_refl _
  | x :: l, h => by
    have h1 := h x (by simp)
    have h2 := sumf_le (l := l) (fun y hy => h y (by simp [hy]))
    simp only [sumf]; omega
theorem sumf_eq_of {f g : Int → Int} : ∀ {l : List Int}, (∀ x ∈ l, f x ≤ g x) → sumf f l = sumf g l → ∀ x ∈ l, f x = g x
  | [], _, _ => fun x hx => by simp at hx
  | x :: l, h, e => by
    have h1 := h x (by simp)
    have h2 := sumf_le (l := l) (fun y hy => h y (by simp [hy]))
    simp only [sumf] at e
    have e1 : f x = g x := by omega
    have ih := sumf_eq_of (l := l) (fun y hy => h y (by simp [hy])) (by omega)
    intro y hy
    rcases List.mem_cons.1 hy with rfl | hy
    · exact e1
    · exact ih y hy
theorem sumf_congr {f g : Int → Int} : ∀ {l : List Int}, (∀ x ∈ l, f x = g x) → sumf f l = sumf g l
  | [], _ => rfl
  | x :: l, h => by
    simp only [sumf]
    rw [h x (by simp), sumf_congr (l := l) (fun y hy => h y (by simp [hy]))]
theorem sumf_mul (f : Int → Int) (q : Int) : ∀ l : List Int, sumf (fun x => f x * q) l = sumf f l * q
  | [] => by simp [sumf]
  | x :: l => by simp only [sumf]; rw [sumf_mul f q l, Int.add_mul]
theorem sumf_sub (f g : Int → Int) : ∀ l : List Int, sumf (fun x => f x - g x) l = sumf f l - sumf g l
  | [] => by simp [sumf]
  | x :: l => by simp only [sumf]; rw [sumf_sub f g l]; omega
theorem sumf_const (k : Int) : ∀ l : List Int, sumf (fun _ => k) l = k * l.length
  | [] => by simp [sumf]
  | x :: l => by
    simp only [sumf]; rw [sumf_const k l, List.length_cons]
    have : ((l.length + 1 : Nat) : Int) = l.length + 1 := by omega
    rw [this, Int.mul_add]; omega

/-- What a claim gets of a level p / q, times q. -/
def cap (p q x : Int) : Int := min (x * q) p
/-- p / q is a level at which equal awards share e. -/
structure IsLev (c : List Int) (e p q : Int) : Prop where
  hq : 1 ≤ q
  sum : sumf (cap p q) c = e * q

theorem lev_le {c : List Int} {e p q p' q' : Int} (h : IsLev c e p q) (h' : IsLev c e p' q') (hle : p * q' ≤ p' * q) : ∀ x ∈ c, cap p q x * q' = cap p' q' x * q := by
  have hq := h.hq
  have hq' := h'.hq
  refine sumf_eq_of (fun x _ => ?_) ?_
  · unfold cap
    have e1 : min (x * q) p * q' = min (x * q * q') (p * q') := by
      rcases Int.le_total (x * q) p with h | h
      · rw [Int.min_eq_left h, Int.min_eq_left (Int.mul_le_mul_of_nonneg_right h (by omega))]
      · rw [Int.min_eq_right h, Int.min_eq_right (Int.mul_le_mul_of_nonneg_right h (by omega))]
    have e2 : min (x * q') p' * q = min (x * q * q') (p' * q) := by
      rw [Int.mul_right_comm]
      rcases Int.le_total (x * q') p' with h | h
      · rw [Int.min_eq_left h, Int.min_eq_left (Int.mul_le_mul_of_nonneg_right h (by omega))]
      · rw [Int.min_eq_right h, Int.min_eq_right (Int.mul_le_mul_of_nonneg_right h (by omega))]
    rw [e1, e2]
    omega
  · rw [sumf_mul, sumf_mul, h.sum, h'.sum, Int.mul_right_comm]
theorem lev_unique {c : List Int} {e p q p' q' : Int} (h : IsLev c e p q) (h' : IsLev c e p' q') : ∀ x ∈ c, cap p q x * q' = cap p' q' x * q := by
  rcases Int.le_total (p * q') (p' * q) with hle | hle
  · exact lev_le h h' hle
  · exact fun x hx => (lev_le h' h hle x hx).symm

/-- The awards at a level. -/
def levA (c : List Int) (p q : Int) : List Rat2 := c.map fun x => red (cap p q x) q
theorem levA_eq {c : List Int} {e p q p' q' : Int} (h : IsLev c e p q) (h' : IsLev c e p' q') : levA c p q = levA c p' q' := by
  unfold levA
  refine List.map_congr_left fun x hx => red_eq h.hq h'.hq (lev_unique h h' x hx)

/-- The level, of sorted claims. -/
def rawLev : List Int → Int → Int × Int
  | [], _ => (0, 1)
  | x :: l, e => if e ≤ x * ((l.length : Int) + 1) then (e, (l.length : Int) + 1) else rawLev l (e - x)

theorem rawLev_q (l : List Int) : ∀ e, 1 ≤ (rawLev l e).2 := by
  induction l with
  | nil => intro e; simp [rawLev]
  | cons x l ih =>
    intro e; unfold rawLev; split
    · simp only; omega
    · exact ih _

theorem rawLev_ge (l : List Int) : ∀ (e x : Int), (∀ y ∈ l, x ≤ y) → x * l.length ≤ e → l ≠ [] → e ≤ sumf id l → x * (rawLev l e).2 ≤ (rawLev l e).1 := by
  induction l with
  | nil => intro e x _ _ h; exact absurd rfl h
  | cons y l ih =>
    intro e x hx he _ hs
    rw [List.length_cons, show (((l.length + 1 : Nat)) : Int) = (l.length : Int) + 1 by omega] at he
    unfold rawLev
    split
    · exact he
    · rename_i h
      have hxy := hx y (by simp)
      have h1 : x * l.length ≤ y * l.length := Int.mul_le_mul_of_nonneg_right hxy (by omega)
      rw [Int.mul_add] at h
      simp only [sumf, id] at hs
      have hne : l ≠ [] := by
        rintro rfl
        simp [sumf] at h hs
        omega
      exact ih (e - y) x (fun z hz => hx z (by simp [hz])) (by omega) hne (by omega)

theorem rawLev_lev (l : List Int) : ∀ e, l.Pairwise (· ≤ ·) → l ≠ [] → e ≤ sumf id l → IsLev l e (rawLev l e).1 (rawLev l e).2 := by
  induction l with
  | nil => intro e _ h; exact absurd rfl h
  | cons x l ih =>
    intro e hp _ hs
    rw [List.pairwise_cons] at hp
    refine ⟨rawLev_q _ _, ?_⟩
    unfold rawLev
    split
    · rename_i h
      simp only
      have : sumf (cap e ((l.length : Int) + 1)) (x :: l) = sumf (fun _ => e) (x :: l) := sumf_congr fun y hy => by
        have hxy : x ≤ y := by
          rcases List.mem_cons.1 hy with rfl | hy
          · exact Int.le_refl _
          · exact hp.1 y hy
        have h1 : x * ((l.length : Int) + 1) ≤ y * ((l.length : Int) + 1) := Int.mul_le_mul_of_nonneg_right hxy (by omega)
        unfold cap; omega
      rw [this, sumf_const, List.length_cons]
      congr 1
    · rename_i h
      simp only [sumf, id] at hs
      rw [Int.mul_add] at h
      have hne : l ≠ [] := by
        rintro rfl
        simp [sumf] at h hs
        omega
      have hi := ih (e - x) hp.2 hne (by omega)
      have hg := rawLev_ge l (e - x) x hp.1 (by omega) hne (by omega)
      have hsum := hi.sum
      generalize (rawLev l (e - x)).1 = p at *
      generalize (rawLev l (e - x)).2 = q at *
      simp only [sumf]
      rw [hsum, Int.sub_mul]
      unfold cap; omega

/-- Equal awards. -/
def eqW (c : List Int) (e : Int) : List Rat2 := levA c (rawLev (c.mergeSort (fun a b => decide (a ≤ b))) e).1 (rawLev (c.mergeSort (fun a b => decide (a ≤ b))) e).2

theorem sort_perm (c : List Int) : (c.mergeSort (fun a b => decide (a ≤ b))).Perm c := List.mergeSort_perm _ _
theorem sort_sorted (c : List Int) : (c.mergeSort (fun a b => decide (a ≤ b))).Pairwise (· ≤ ·) := by
  have := List.pairwise_mergeSort (le := fun a b : Int => decide (a ≤ b)) (by intro a b c h1 h2; simp at *; omega) (by intro a b; simp; omega) c
  exact this.imp (by simp)

theorem perm_lev {a b : List Int} (h : a.Perm b) {e p q : Int} (k : IsLev a e p q) : IsLev b e p q := ⟨k.hq, by rw [← sumf_perm h]; exact k.sum⟩

theorem eqW_lev {c : List Int} (e : Int) (h0 : c ≠ []) (hs : e ≤ tot c) : IsLev c e (rawLev (c.mergeSort (fun a b => decide (a ≤ b))) e).1 (rawLev (c.mergeSort (fun a b => decide (a ≤ b))) e).2 := by
  have hp := sort_perm c
  refine perm_lev hp (rawLev_lev _ e (sort_sorted c) ?_ ?_)
  · intro h
    have := hp.length_eq
    rw [h] at this
    exact h0 (List.eq_nil_of_length_eq_zero this.symm)
  · rw [sumf_perm hp, ← tot_sumf]; exact hs

/-- Any level serves. -/
theorem eqW_of {c : List Int} {e p q : Int} (h0 : c ≠ []) (hs : e ≤ tot c) (h : IsLev c e p q) : levA c p q = eqW c e := levA_eq h (eqW_lev e h0 hs)

theorem lev_one {p q x : Int} (hq : 1 ≤ q) (h : x * (red p q).2 < (red p q).1) : red (cap p q x) q = (x, 1) := by
  obtain ⟨g, hg, h1, h2, h3, _⟩ := red_spec p q hq
  generalize (red p q).1 = a at *
  generalize (red p q).2 = b at *
  subst h1 h2
  have : x * (g * b) ≤ g * a := by
    rw [Int.mul_left_comm]; exact Int.mul_le_mul_of_nonneg_left (by omega) (by omega)
  unfold cap
  rw [Int.min_eq_left this]
  exact red_whole x _ hq
theorem lev_two {p q x : Int} (hq : 1 ≤ q) (h : ¬ x * (red p q).2 < (red p q).1) : red (cap p q x) q = red p q := by
  obtain ⟨g, hg, h1, h2, h3, _⟩ := red_spec p q hq
  have : p ≤ x * q := by
    generalize (red p q).1 = a at *
    generalize (red p q).2 = b at *
    subst h1 h2
    rw [Int.mul_left_comm]; exact Int.mul_le_mul_of_nonneg_left (by omega) (by omega)
  unfold cap
  rw [Int.min_eq_right this]

theorem rawLev_bd (l : List Int) : ∀ e, (∀ x ∈ l, 0 ≤ x) → 0 ≤ e → 0 ≤ (rawLev l e).1 ∧ (rawLev l e).1 ≤ e ∧ (rawLev l e).2 ≤ l.length + 1 := by
  induction l with
  | nil => intro e _ h; simp [rawLev]; omega
  | cons x l ih =>
    intro e hx he
    unfold rawLev
    split
    · simp; omega
    · rename_i h
      have h0 := hx x (by simp)
      have h1 : x * 1 ≤ x * ((l.length : Int) + 1) := Int.mul_le_mul_of_nonneg_left (by omega) h0
      have := ih (e - x) (fun y hy => hx y (by simp [hy])) (by omega)
      rw [List.length_cons]
      omega

theorem red_bd {n d B : Int} (h : 1 ≤ d) (h1 : -B ≤ n) (h2 : n ≤ B) : -B ≤ (red n d).1 ∧ (red n d).1 ≤ B ∧ 1 ≤ (red n d).2 ∧ (red n d).2 ≤ d := by
  obtain ⟨g, hg, e1, e2, h3, _⟩ := red_spec n d h
  generalize (red n d).1 = a at *
  generalize (red n d).2 = b at *
  subst e1 e2
  have hb : 1 * b ≤ g * b := Int.mul_le_mul_of_nonneg_right hg (by omega)
  rcases Int.le_total 0 a with ha | ha
  · have : 1 * a ≤ g * a := Int.mul_le_mul_of_nonneg_right hg ha
    omega
  · have : 1 * (-a) ≤ g * (-a) := Int.mul_le_mul_of_nonneg_right hg (by omega)
    rw [Int.mul_neg g a] at this
    omega
theorem red_pos {n d : Int} (h : 1 ≤ d) (h1 : 0 ≤ n) : 0 ≤ (red n d).1 ∧ (red n d).1 ≤ n := by
  obtain ⟨g, hg, e1, e2, h3, _⟩ := red_spec n d h
  generalize (red n d).1 = a at *
  rcases Int.le_total 0 a with ha | ha
  · have : 1 * a ≤ g * a := Int.mul_le_mul_of_nonneg_right hg ha
    omega
  · have : 1 * (-a) ≤ g * (-a) := Int.mul_le_mul_of_nonneg_right hg (by omega)
    rw [Int.mul_neg g a] at this
    omega

def halfL (l : List Rat2) : List Rat2 := l.map fun x => red x.1 (2 * x.2)
def lessL (c : List Int) (l : List Rat2) : List Rat2 := List.zipWith (fun x y => red (x * y.2 - y.1) y.2) c l
def propL (c : List Int) (e : Int) : List Rat2 := c.map fun x => red (x * e) (max 1 (tot c))
/-- Awards by a rule. -/
def shareL (c : List Int) (e r : Int) : List Rat2 :=
  if r = 1 then propL c e else if r = 2 then eqW c e else if r = 3 then lessL c (eqW c (tot c - e))
  else if 2 * e > tot c then lessL c (halfL (eqW c (2 * (tot c - e)))) else halfL (eqW c (2 * e))

theorem zip_map {f : Int → Rat2} {g : Int → Rat2 → Rat2} : ∀ c : List Int, List.zipWith g c (c.map f) = c.map fun x => g x (f x)
  | [] => rfl
  | x :: l => by simp only [List.map_cons, List.zipWith_cons_cons]; rw [zip_map l]

theorem red_less {x n d : Int} (hd : 1 ≤ d) : red (x * (red n d).2 - (red n d).1) (red n d).2 = red (x * d - n) d := by
  obtain ⟨g, hg, h1, h2, h3, _⟩ := red_spec n d hd
  have := red_mul n d hd
  refine red_eq h3 hd ?_
  rw [Int.sub_mul, Int.sub_mul, this, Int.mul_right_comm]
theorem red_half {n d : Int} (hd : 1 ≤ d) : red (red n d).1 (2 * (red n d).2) = red n (2 * d) := by
  obtain ⟨g, hg, h1, h2, h3, _⟩ := red_spec n d hd
  have := red_mul n d hd
  refine red_eq (by omega) (by omega) ?_
  rw [Int.mul_left_comm, this, Int.mul_left_comm n 2]
theorem less_lev (c : List Int) (f : Int → Int) {q : Int} (hq : 1 ≤ q) : lessL c (c.map fun x => red (f x) q) = c.map fun x => red (x * q - f x) q := by
  unfold lessL
  rw [zip_map]
  exact List.map_congr_left fun x _ => red_less hq
theorem half_lev (c : List Int) (f : Int → Int) {q : Int} (hq : 1 ≤ q) : halfL (c.map fun x => red (f x) q) = c.map fun x => red (f x) (2 * q) := by
  unfold halfL
  rw [List.map_map]
  exact List.map_congr_left fun x _ => red_half hq

/-- Awards are numerators over one denominator, by the claims. -/
structure Shr (c : List Int) (e : Int) (l : List Rat2) (f : Int → Int) (Q : Int) : Prop where
  hQ : 1 ≤ Q
  hQ2 : Q ≤ 8000
  aw : l = c.map fun x => red (f x) Q
  sum : sumf f c = e * Q
  lo : ∀ x ∈ c, 0 ≤ f x
  hi : ∀ x ∈ c, f x ≤ x * Q
  mono : ∀ x ∈ c, ∀ y ∈ c, x ≤ y → f x ≤ f y ∧ x * Q - f x ≤ y * Q - f y

theorem sumf_id_mul (c : List Int) (q : Int) : sumf (fun x => x * q) c = tot c * q := by
  rw [tot_sumf, ← sumf_mul]; rfl

theorem eqW_shr {c : List Int} {e : Int} (h0 : c ≠ []) (hc : ∀ x ∈ c, 0 ≤ x) (hn : c.length ≤ 8) (he : 0 ≤ e) (hs : e ≤ tot c) : ∃ p q : Int, IsLev c e p q ∧ 0 ≤ p ∧ q ≤ 9 ∧ eqW c e = c.map fun x => red (cap p q x) q := by
  have h := eqW_lev e h0 hs
  have hp := sort_perm c
  have hb := rawLev_bd (c.mergeSort (fun a b => decide (a ≤ b))) e (fun x hx => hc x (hp.mem_iff.1 hx)) he
  have hl := hp.length_eq
  exact ⟨_, _, h, hb.1, by omega, rfl⟩

theorem cap_facts {p q x y : Int} (hq : 1 ≤ q) (hp : 0 ≤ p) (hx : 0 ≤ x) (hxy : x ≤ y) : 0 ≤ cap p q x ∧ cap p q x ≤ x * q ∧ cap p q x ≤ cap p q y ∧ x * q - cap p q x ≤ y * q - cap p q y := by
  have h1 : 0 ≤ x * q := Int.mul_nonneg hx (by omega)
  have h2 : x * q ≤ y * q := Int.mul_le_mul_of_nonneg_right hxy (by omega)
  unfold cap
  omega

theorem share_shr {c : List Int} {e r : Int} (h0 : c ≠ []) (hc : ∀ x ∈ c, 0 ≤ x) (hn : c.length ≤ 8) (ht : tot c ≤ 8000) (he : 0 ≤ e) (hs : e ≤ tot c) : ∃ f Q, Shr c e (shareL c e r) f Q := by
  unfold shareL
  split
  · refine ⟨fun x => x * e, max 1 (tot c), by omega, by omega, rfl, ?_, fun x hx => Int.mul_nonneg (hc x hx) he, fun x hx => ?_, fun x hx y hy hxy => ?_⟩
    · rw [sumf_id_mul, Int.mul_comm e]
      by_cases h : 1 ≤ tot c
      · rw [Int.max_eq_right h]
      · have : e = 0 := by omega
        rw [this]; simp
    · exact Int.mul_le_mul_of_nonneg_left (by omega) (hc x hx)
    · refine ⟨Int.mul_le_mul_of_nonneg_right hxy he, ?_⟩
      rw [← Int.mul_sub, ← Int.mul_sub]
      exact Int.mul_le_mul_of_nonneg_right hxy (by omega)
  split
  · obtain ⟨p, q, hl, hp, hq9, e1⟩ := eqW_shr h0 hc hn he hs
    have hq := hl.hq
    exact ⟨cap p q, q, hq, by omega, e1, hl.sum, fun x hx => (cap_facts hq hp (hc x hx) (Int.le_refl x)).1, fun x hx => (cap_facts hq hp (hc x hx) (Int.le_refl x)).2.1, fun x hx y _ hxy => (cap_facts hq hp (hc x hx) hxy).2.2⟩
  split
  · obtain ⟨p, q, hl, hp, hq9, e1⟩ := eqW_shr (e := tot c - e) h0 hc hn (by omega) (by omega)
    have hq := hl.hq
    refine ⟨fun x => x * q - cap p q x, q, hq, by omega, by rw [e1, less_lev c _ hq], ?_, fun x hx => ?_, fun x hx => ?_, fun x hx y _ hxy => ?_⟩
    · rw [sumf_sub, sumf_id_mul, hl.sum, Int.sub_mul]; omega
    · have := (cap_facts hq hp (hc x hx) (Int.le_refl x)).2.1; omega
    · have := (cap_facts hq hp (hc x hx) (Int.le_refl x)).1; omega
    · have := (cap_facts hq hp (hc x hx) hxy).2.2
      have h2 : x * q ≤ y * q := Int.mul_le_mul_of_nonneg_right hxy (by omega)
      omega
  split
  · obtain ⟨p, q, hl, hp, hq9, e1⟩ := eqW_shr (e := 2 * (tot c - e)) h0 hc hn (by omega) (by omega)
    have hq := hl.hq
    refine ⟨fun x => x * (2 * q) - cap p q x, 2 * q, by omega, by omega, by rw [e1, half_lev c _ hq, less_lev c _ (by omega)], ?_, fun x hx => ?_, fun x hx => ?_, fun x hx y _ hxy => ?_⟩
    · rw [sumf_sub, sumf_id_mul, hl.sum, Int.mul_left_comm (tot c) 2 q, Int.mul_left_comm e 2 q, Int.mul_assoc, Int.sub_mul]; omega
    · have := (cap_facts hq hp (hc x hx) (Int.le_refl x)).2.1
      have h1 : 0 ≤ x * q := Int.mul_nonneg (hc x hx) (by omega)
      rw [Int.mul_left_comm]; omega
    · have := (cap_facts hq hp (hc x hx) (Int.le_refl x)).1; omega
    · have := (cap_facts hq hp (hc x hx) hxy).2.2
      have h2 : x * q ≤ y * q := Int.mul_le_mul_of_nonneg_right hxy (by omega)
      rw [Int.mul_left_comm x, Int.mul_left_comm y]; omega
  · obtain ⟨p, q, hl, hp, hq9, e1⟩ := eqW_shr (e := 2 * e) h0 hc hn (by omega) (by omega)
    have hq := hl.hq
    refine ⟨cap p q, 2 * q, by omega, by omega, by rw [e1, half_lev c _ hq], ?_, fun x hx => (cap_facts hq hp (hc x hx) (Int.le_refl x)).1, fun x hx => ?_, fun x hx y _ hxy => ?_⟩
    · rw [hl.sum, Int.mul_left_comm e 2 q, Int.mul_assoc]
    · have := (cap_facts hq hp (hc x hx) (Int.le_refl x)).2.1
      have h1 : 0 ≤ x * q := Int.mul_nonneg (hc x hx) (by omega)
      rw [Int.mul_left_comm]; omega
    · have := (cap_facts hq hp (hc x hx) hxy).2.2
      have h2 : x * q ≤ y * q := Int.mul_le_mul_of_nonneg_right hxy (by omega)
      rw [Int.mul_left_comm x, Int.mul_left_comm y]; omega

end Go.Proofs.YtdfkaijeppdhaaaGreatDoor.Fd
