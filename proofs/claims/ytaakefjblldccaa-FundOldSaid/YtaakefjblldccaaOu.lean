/- Plain mathematics: the awards of the old rule agree, and no others do. -/
import Derived.Test.YtaakefjblldccaaKb
namespace Go.Proofs.Ytaakefjblldccaa
open Go.RowKit

/-- Ratios that stand for numbers over A. -/
structure Over (l : List Rat2) (X : List Int) (A : Int) : Prop where
  len : X.length = l.length
  hA : 1 ≤ A
  val : ∀ i, i < l.length → (l.getD i (0, 0)).1 * A = X.getD i 0 * (l.getD i (0, 0)).2

theorem over_fold : ∀ (l : List Rat2) (s a : Int), 1 ≤ a → (∀ x ∈ l, 1 ≤ x.2) →
    ∃ (X : List Int) (m : Int), X.length = l.length ∧ 1 ≤ m ∧ (l.foldl (fun s x => (s.1 * x.2 + x.1 * s.2, s.2 * x.2)) (s, a)).2 = a * m ∧
      (l.foldl (fun s x => (s.1 * x.2 + x.1 * s.2, s.2 * x.2)) (s, a)).1 = s * m + X.sum ∧
      ∀ i, i < l.length → (l.getD i (0, 0)).1 * (l.foldl (fun s x => (s.1 * x.2 + x.1 * s.2, s.2 * x.2)) (s, a)).2 = X.getD i 0 * (l.getD i (0, 0)).2
  | [], s, a, _, _ => ⟨[], 1, rfl, by omega, by simp, by simp, fun i hi => by simp at hi⟩
  | x :: l, s, a, ha, hd => by
    have hx := hd x (by simp)
    have hax : 1 ≤ a * x.2 := by have := Int.mul_pos (show 0 < a by omega) (show 0 < x.2 by omega); omega
    obtain ⟨X, m, h1, h2, h3, h4, h5⟩ := over_fold l (s * x.2 + x.1 * a) (a * x.2) hax (fun y hy => hd y (by simp [hy]))
    have hm : 1 ≤ x.2 * m := by have := Int.mul_pos (show 0 < x.2 by omega) (show 0 < m by omega); omega
    refine ⟨x.1 * a * m :: X, x.2 * m, by simp [h1], hm, ?_, ?_, fun i hi => ?_⟩
    · rw [List.foldl_cons, h3, Int.mul_assoc]
    · rw [List.foldl_cons, h4, List.sum_cons]; grind
    · rw [List.foldl_cons]
      rcases i with _ | i
      · rw [List.getD_cons_zero, List.getD_cons_zero, h3]; grind
      · rw [List.getD_cons_succ, List.getD_cons_succ]
        exact h5 i (by simpa using hi)

theorem over_ex {l : List Rat2} {n : Int} (hd : ∀ x ∈ l, 1 ≤ x.2) (h : addUp l n = true) : ∃ (X : List Int) (A : Int), Over l X A ∧ X.sum = n * A := by
  obtain ⟨X, m, h1, h2, h3, h4, h5⟩ := over_fold l 0 1 (by omega) hd
  unfold addUp sumA at h
  rw [beq_iff_eq] at h
  refine ⟨X, (l.foldl (fun s x => (s.1 * x.2 + x.1 * s.2, s.2 * x.2)) (0, 1)).2, ⟨h1, ?_, h5⟩, ?_⟩
  · rw [h3]; omega
  · rw [← h, h4]; omega

theorem max_scale {D t : Int} (h : 0 ≤ D) : D * max t 0 = max (D * t) 0 := by
  rcases Int.le_total t 0 with k | k
  · rw [Int.max_eq_right k, Int.max_eq_right (Int.mul_nonpos_of_nonneg_of_nonpos h k), Int.mul_zero]
  · rw [Int.max_eq_left k, Int.max_eq_left (Int.mul_nonneg h k)]

def FairI (a b x y Q : Int) : Prop := x - max (x + y - b * Q) 0 = y - max (x + y - a * Q) 0

theorem fair_over {a b n d m f X Y A : Int} (hA : 1 ≤ A) (hd : 1 ≤ d) (hf : 1 ≤ f) (h1 : n * A = X * d) (h2 : m * A = Y * f) : fairB a b (n, d) (m, f) = true ↔ FairI a b X Y A := by
  unfold fairB FairI
  rw [beq_iff_eq]
  simp only
  have hD : 1 ≤ d * f := by have := Int.mul_pos (show 0 < d by omega) (show 0 < f by omega); omega
  have e1 : A * (n * f) = d * f * X := by grind
  have e2 : A * (m * d) = d * f * Y := by grind
  have u1 : A * (n * f + m * d - b * (d * f)) = d * f * (X + Y - b * A) := by grind
  have u2 : A * (n * f + m * d - a * (d * f)) = d * f * (X + Y - a * A) := by grind
  have m1 : A * max (n * f + m * d - b * (d * f)) 0 = d * f * max (X + Y - b * A) 0 := by rw [max_scale (by omega), max_scale (by omega), u1]
  have m2 : A * max (n * f + m * d - a * (d * f)) 0 = d * f * max (X + Y - a * A) 0 := by rw [max_scale (by omega), max_scale (by omega), u2]
  generalize max (n * f + m * d - b * (d * f)) 0 = M1 at *
  generalize max (n * f + m * d - a * (d * f)) 0 = M2 at *
  generalize max (X + Y - b * A) 0 = N1 at *
  generalize max (X + Y - a * A) 0 = N2 at *
  generalize d * f = D at *
  constructor
  · intro h
    have : D * (X - N1) = D * (Y - N2) := by
      rw [Int.mul_sub, Int.mul_sub, ← e1, ← e2, ← m1, ← m2, ← Int.mul_sub, ← Int.mul_sub, h]
    exact Int.eq_of_mul_eq_mul_left (by omega) this
  · intro h
    have : A * (n * f - M1) = A * (m * d - M2) := by
      rw [Int.mul_sub, Int.mul_sub, e1, e2, m1, m2, ← Int.mul_sub, ← Int.mul_sub, h]
    exact Int.eq_of_mul_eq_mul_left (by omega) this

theorem fairI_scale {a b x y A k : Int} (hk : 0 ≤ k) (h : FairI a b x y A) : FairI a b (x * k) (y * k) (A * k) := by
  unfold FairI at *
  have e1 : max (x * k + y * k - b * (A * k)) 0 = max (x + y - b * A) 0 * k := by
    rw [Int.mul_comm (max _ _) k, max_scale hk]; congr 1; grind
  have e2 : max (x * k + y * k - a * (A * k)) 0 = max (x + y - a * A) 0 * k := by
    rw [Int.mul_comm (max _ _) k, max_scale hk]; congr 1; grind
  rw [e1, e2, ← Int.sub_mul, ← Int.sub_mul, h]
theorem fairI_mono {a b x y x' y' Q : Int} (h : FairI a b x y Q) (h' : FairI a b x' y' Q) (hx : x < x') (hy : y' < y) : False := by
  unfold FairI at *
  generalize a * Q = P at *
  generalize b * Q = R at *
  omega

theorem sum_eq_all : ∀ (X Y : List Int), X.length = Y.length → (∀ i, i < X.length → X.getD i 0 ≤ Y.getD i 0) → X.sum ≤ Y.sum ∧ (X.sum = Y.sum → X = Y)
  | [], [], _, _ => ⟨by simp, fun _ => rfl⟩
  | [], _ :: _, h, _ => by simp at h
  | _ :: _, [], h, _ => by simp at h
  | x :: X, y :: Y, h, hle => by
    obtain ⟨h1, h2⟩ := sum_eq_all X Y (by simpa using h) (fun i hi => by have := hle (i + 1) (by simpa using hi); simpa using this)
    have h0 := hle 0 (by simp)
    simp only [List.getD_cons_zero] at h0
    simp only [List.sum_cons]
    refine ⟨by omega, fun he => ?_⟩
    rw [h2 (by omega), show x = y by omega]

theorem agree_unique {c X Y : List Int} {Q : Int} (hl : X.length = Y.length) (hs : X.sum = Y.sum)
    (fx : ∀ i k, i < X.length → k < i → FairI (c.getD i 0) (c.getD k 0) (X.getD i 0) (X.getD k 0) Q)
    (fy : ∀ i k, i < X.length → k < i → FairI (c.getD i 0) (c.getD k 0) (Y.getD i 0) (Y.getD k 0) Q) : X = Y := by
  by_cases h1 : ∀ i, i < X.length → X.getD i 0 ≤ Y.getD i 0
  · exact (sum_eq_all X Y hl h1).2 hs
  · by_cases h2 : ∀ i, i < Y.length → Y.getD i 0 ≤ X.getD i 0
    · exact ((sum_eq_all Y X hl.symm h2).2 hs.symm).symm
    · exfalso
      have ⟨i, hi⟩ := Classical.not_forall.1 h1
      have ⟨j, hj⟩ := Classical.not_forall.1 h2
      have hil : i < X.length := by
        by_cases h : i < X.length
        · exact h
        · exact absurd (fun h' => absurd h' h) hi
      have hjl : j < Y.length := by
        by_cases h : j < Y.length
        · exact h
        · exact absurd (fun h' => absurd h' h) hj
      have hi' : Y.getD i 0 < X.getD i 0 := by
        by_cases h : X.getD i 0 ≤ Y.getD i 0
        · exact absurd (fun _ => h) hi
        · omega
      have hj' : X.getD j 0 < Y.getD j 0 := by
        by_cases h : Y.getD j 0 ≤ X.getD j 0
        · exact absurd (fun _ => h) hj
        · omega
      rcases Nat.lt_trichotomy i j with h | h | h
      · exact fairI_mono (fx j i (by omega) h) (fy j i (by omega) h) hj' hi'
      · subst h; omega
      · exact fairI_mono (fy i j (by omega) h) (fx i j (by omega) h) hi' hj'

theorem fair_of {c : List Int} {l : List Rat2} {X : List Int} {A : Int} (h : Over l X A) (hd : ∀ i, i < l.length → 1 ≤ (l.getD i (0, 0)).2) {i k : Nat} (hi : i < l.length) (hk : k < i) :
    fairAt c l i k = true ↔ FairI (c.getD i 0) (c.getD k 0) (X.getD i 0) (X.getD k 0) A := by
  unfold fairAt
  have h1 := h.val i hi
  have h2 := h.val k (by omega)
  have d1 := hd i hi
  have d2 := hd k (by omega)
  generalize l.getD i (0, 0) = x at *
  generalize l.getD k (0, 0) = y at *
  exact fair_over h.hA d1 d2 h1 h2

theorem agB_iff {c : List Int} {l : List Rat2} : agB c l = true ↔ ∀ i, i < l.length → ∀ k, k < i → fairAt c l i k = true := by
  constructor
  · intro h i hi k hk
    unfold agB at h
    rw [List.all_eq_true] at h
    have := h i (List.mem_range.2 hi)
    rw [List.all_eq_true] at this
    exact this k (List.mem_range.2 hk)
  · exact agB_good

theorem old_over (c : List Int) (e : Int) : Over (shareL c e 4) (c.map (frF c e 4)) (frQ c e 4) := by
  rw [share_frac]
  refine ⟨by simp, frQ_pos _ _ _, fun i hi => ?_⟩
  rw [List.length_map] at hi
  rw [getD_map0 hi, show (c.map (frF c e 4)).getD i 0 = frF c e 4 (c.getD i 0) by simp [List.getD_eq_getElem?_getD, hi]]
  exact red_mul _ _ (frQ_pos _ _ _)

theorem old_fair {c : List Int} {e : Int} (hc : ∀ x ∈ c, 0 ≤ x) (he : 0 ≤ e) (hs : e ≤ tot c) {a b : Int} (ha : 0 ≤ a) (hb : 0 ≤ b) : FairI a b (frF c e 4 a) (frF c e 4 b) (frQ c e 4) := by
  unfold FairI
  by_cases h : tot c < 2 * e
  · obtain ⟨e1, e2⟩ := fr_4a c e h
    rw [e1, e2]
    have hp := (levP_nonneg hc (e := 2 * (tot c - e)) (by omega)).1
    have hq := levQ_pos c (2 * (tot c - e))
    generalize levP c (2 * (tot c - e)) = p at *
    generalize levQ c (2 * (tot c - e)) = q at *
    have h1 := Int.mul_nonneg ha (show 0 ≤ q by omega)
    have h2 := Int.mul_nonneg hb (show 0 ≤ q by omega)
    unfold cap
    simp only
    rw [Int.mul_left_comm a, Int.mul_left_comm b]
    omega
  · obtain ⟨e1, e2⟩ := fr_4b c e h
    rw [e1, e2]
    have hp := (levP_nonneg hc (e := 2 * e) (by omega)).1
    have hq := levQ_pos c (2 * e)
    generalize levP c (2 * e) = p at *
    generalize levQ c (2 * e) = q at *
    have h1 := Int.mul_nonneg ha (show 0 ≤ q by omega)
    have h2 := Int.mul_nonneg hb (show 0 ≤ q by omega)
    unfold cap
    rw [Int.mul_left_comm a, Int.mul_left_comm b]
    omega

theorem getD_f (f : Int → Int) {c : List Int} {i : Nat} (h : i < c.length) : (c.map f).getD i 0 = f (c.getD i 0) := by simp [List.getD_eq_getElem?_getD, h]

/-- The awards of the old rule agree. -/
theorem old_agrees {c : List Int} {n : Int} (ha : askE c n = 0) : agV c n (shareL c n 4) = true := by
  obtain ⟨hc, h1, h2⟩ := askE_ok2 ha
  unfold agV
  rw [(share_sV ha (by omega)).1, Bool.true_and, agB_iff]
  have ho := shr_okv (hc.shr2 h1 h2 (r := 4) (by omega))
  intro i hi k hk
  have hlen : (shareL c n 4).length = c.length := ho.1
  refine (fair_of (old_over c n) (fun j hj => (ho.2 j (by omega)).1) hi hk).2 ?_
  rw [getD_f _ (by omega), getD_f _ (by omega)]
  exact old_fair hc.pos h1 h2 (hc.holds _ (mem_getD (by omega))).1 (hc.holds _ (mem_getD (by omega))).1

theorem sV_parts {c : List Int} {n : Int} {l : List Rat2} (h : sV c n l = true) : askE c n = 0 ∧ arA c l = true ∧ inAll c l = true ∧ addUp l n = true := by
  unfold sV at h
  rw [Bool.and_eq_true, decide_eq_true_iff] at h
  obtain ⟨h1, h2⟩ := h
  unfold shB at h2
  rw [Bool.and_eq_true] at h2
  have ha : askE c n = 0 := by
    unfold awE at h1
    by_cases h0 : askE c n = 0
    · exact h0
    · rw [if_neg h0] at h1; exact h1
  refine ⟨ha, ?_, h2.1, h2.2⟩
  unfold awE at h1
  rw [if_pos ha] at h1
  cases hr : arA c l with
  | true => rfl
  | false => rw [hr] at h1; simp at h1

/-- No other awards agree. -/
theorem agree_same {c : List Int} {n : Int} {l : List Rat2} (h : agV c n l = true) : l.length = c.length ∧ ∀ i, i < c.length → (l.getD i (0, 0)).1 * ((shareL c n 4).getD i (0, 0)).2 = ((shareL c n 4).getD i (0, 0)).1 * (l.getD i (0, 0)).2 := by
  unfold agV at h
  rw [Bool.and_eq_true] at h
  obtain ⟨h1, h2⟩ := h
  obtain ⟨ha, hr, _, hu⟩ := sV_parts h1
  obtain ⟨hc, hn0, hn1⟩ := askE_ok2 ha
  have hlen : l.length = c.length := by
    unfold arA at hr
    rw [Bool.and_eq_true, beq_iff_eq] at hr
    exact hr.1
  have hd : ∀ i, i < l.length → 1 ≤ (l.getD i (0, 0)).2 := fun i hi => (awd_bd hr hi).2.2.1
  have hd' : ∀ x ∈ l, 1 ≤ x.2 := fun x hx => by
    obtain ⟨k, hk, rfl⟩ := List.getElem_of_mem hx
    have := hd k hk
    rwa [List.getD_eq_getElem?_getD, List.getElem?_eq_getElem hk] at this
  obtain ⟨X, A, hX, hs⟩ := over_ex hd' hu
  have S := hc.shr2 hn0 hn1 (r := 4) (by omega)
  have ho := shr_okv S
  have hY := old_over c n
  have hQ := frQ_pos c n 4
  have hA := hX.hA
  have hsY : (c.map (frF c n 4)).sum = n * frQ c n 4 := by
    rw [← S.sum]
    have : ∀ (g : Int → Int) (c : List Int), (c.map g).sum = sumf g c := by
      intro g c
      induction c with
      | nil => rfl
      | cons x c ih => rw [List.map_cons, List.sum_cons, ih]; rfl
    exact this _ _
  have hxl : X.length = c.length := by rw [hX.len, hlen]
  have key := agree_unique (c := c) (X := X.map (· * frQ c n 4)) (Y := (c.map (frF c n 4)).map (· * A)) (Q := A * frQ c n 4)
    (by simp [hxl])
    (by
      have : ∀ (k : Int) (l : List Int), (l.map (· * k)).sum = l.sum * k := by
        intro k l
        induction l with
        | nil => simp
        | cons x l ih => rw [List.map_cons, List.sum_cons, ih, List.sum_cons, Int.add_mul]
      rw [this, this, hs, hsY]; grind)
    (fun i k hi hk => by
      rw [List.length_map, hxl] at hi
      rw [getD_f (· * frQ c n 4) (by omega), getD_f (· * frQ c n 4) (by omega)]
      exact fairI_scale (by omega) ((fair_of hX hd (by omega) hk).1 (agB_iff.1 h2 i (by omega) k hk)))
    (fun i k hi hk => by
      rw [List.length_map, hxl] at hi
      rw [getD_f (· * A) (by simpa using hi), getD_f (· * A) (by simp; omega), getD_f _ hi, getD_f _ (by omega), Int.mul_comm A]
      exact fairI_scale (by omega) (old_fair hc.pos hn0 hn1 (hc.holds _ (mem_getD hi)).1 (hc.holds _ (mem_getD (by omega))).1))
  refine ⟨hlen, fun i hi => ?_⟩
  have k1 : X.getD i 0 * frQ c n 4 = (c.map (frF c n 4)).getD i 0 * A := by
    have := congrArg (fun L : List Int => L.getD i 0) key
    rw [getD_f (· * frQ c n 4) (by omega), getD_f (· * A) (by simpa using hi)] at this
    exact this
  have k2 := hX.val i (by omega)
  have k3 := hY.val i (by rw [ho.1]; exact hi)
  generalize l.getD i (0, 0) = x at *
  generalize (shareL c n 4).getD i (0, 0) = y at *
  generalize (c.map (frF c n 4)).getD i 0 = Yi at *
  generalize X.getD i 0 = Xi at *
  generalize frQ c n 4 = Q at *
  have : A * Q * (x.1 * y.2) = A * Q * (y.1 * x.2) := by
    have e1 : A * Q * (x.1 * y.2) = (x.1 * A) * (Q * y.2) := by grind
    have e2 : A * Q * (y.1 * x.2) = (y.1 * Q) * (A * x.2) := by grind
    rw [e1, e2, k2, k3]
    have e3 : Xi * x.2 * (Q * y.2) = (Xi * Q) * (x.2 * y.2) := by grind
    have e4 : Yi * y.2 * (A * x.2) = (Yi * A) * (x.2 * y.2) := by grind
    rw [e3, e4, k1]
  exact Int.eq_of_mul_eq_mul_left (by have := Int.mul_pos (show 0 < A by omega) (show 0 < Q by omega); omega) this

end Go.Proofs.Ytaakefjblldccaa
