/- Plain mathematics of tides: sums of a function over hours, periods, the least period. No program in sight. -/
namespace Go.Proofs.YtbgflacfemeblaaDoor

/-- The sum of f over n hours from a on. -/
def acc (f : Int → Int) (a : Int) : Nat → Int
  | 0 => 0
  | n + 1 => acc f a n + f (a + n)

/-- f repeats behind p. -/
def Per (f : Int → Int) (p : Int) : Prop := ∀ h, f (h + p) = f h

theorem acc_add (f : Int → Int) (a : Int) (n m : Nat) : acc f a (n + m) = acc f a n + acc f (a + n) m := by
  induction m with
  | zero => simp [acc]
  | succ m ih =>
    rw [show n + (m + 1) = (n + m) + 1 from rfl]
    simp only [acc]
    rw [ih, show a + ((n + m : Nat) : Int) = a + n + m from by omega]
    omega

theorem acc_succ' (f : Int → Int) (a : Int) (n : Nat) : acc f a (n + 1) = f a + acc f (a + 1) n := by
  rw [show n + 1 = 1 + n from Nat.add_comm _ _, acc_add]
  simp [acc]

theorem acc_congr {f g : Int → Int} {a b : Int} {n : Nat} (h : ∀ i : Nat, i < n → f (a + i) = g (b + i)) : acc f a n = acc g b n := by
  induction n with
  | zero => rfl
  | succ n ih => simp only [acc]; rw [ih (fun i hi => h i (by omega)), h n (by omega)]

theorem acc_plus (f g : Int → Int) (a : Int) (n : Nat) : acc (fun h => f h + g h) a n = acc f a n + acc g a n := by
  induction n with
  | zero => rfl
  | succ n ih => simp only [acc]; rw [ih]; omega

theorem acc_neg (f : Int → Int) (a : Int) (n : Nat) : acc (fun h => - f h) a n = - acc f a n := by
  induction n with
  | zero => rfl
  | succ n ih => simp only [acc]; rw [ih]; omega

/-- The sum backwards. -/
theorem acc_back (f : Int → Int) (a : Int) (n : Nat) : acc (fun h => f (-h)) a n = acc f (1 - a - n) n := by
  induction n with
  | zero => rfl
  | succ n ih =>
    simp only [acc]
    rw [ih]
    have e := acc_succ' f (1 - a - ((n + 1 : Nat) : Int)) n
    simp only [acc] at e
    rw [e, show 1 - a - ((n + 1 : Nat) : Int) + 1 = 1 - a - n from by omega, show -(a + (n : Int)) = 1 - a - ((n + 1 : Nat) : Int) from by omega]
    omega

theorem acc_bound (f : Int → Int) (B : Int) (hf : ∀ h, -B ≤ f h ∧ f h ≤ B) (a : Int) (n : Nat) : -(B * n) ≤ acc f a n ∧ acc f a n ≤ B * n := by
  induction n with
  | zero => simp [acc]
  | succ n ih =>
    have h1 := hf (a + n)
    have e : B * ((n + 1 : Nat) : Int) = B * n + B := by rw [Int.natCast_add, Int.mul_add]; simp
    simp only [acc]
    omega

theorem Per.neg {f : Int → Int} {p : Int} (h : Per f p) : Per f (-p) := fun x => by
  have := h (x + -p); rw [show x + -p + p = x from by omega] at this; exact this.symm

theorem Per.add {f : Int → Int} {p q : Int} (h : Per f p) (k : Per f q) : Per f (p + q) := fun x => by
  rw [← Int.add_assoc, k, h]

theorem Per.zero (f : Int → Int) : Per f 0 := fun x => by rw [Int.add_zero]

theorem Per.mulNat {f : Int → Int} {p : Int} (h : Per f p) (n : Nat) : Per f (n * p) := by
  induction n with
  | zero => simpa using Per.zero f
  | succ n ih =>
    rw [Int.natCast_add, Int.add_mul]
    simpa using ih.add h

theorem Per.mul {f : Int → Int} {p : Int} (h : Per f p) (n : Int) : Per f (n * p) := by
  rcases Int.le_total 0 n with hn | hn
  · obtain ⟨k, rfl⟩ := Int.eq_ofNat_of_zero_le hn
    exact h.mulNat k
  · obtain ⟨k, hk⟩ := Int.eq_ofNat_of_zero_le (show 0 ≤ -n by omega)
    have := (h.mulNat k).neg
    rw [← hk, Int.neg_mul, Int.neg_neg] at this
    exact this

theorem Per.dvd {f : Int → Int} {p q : Int} (h : Per f p) (hd : p ∣ q) : Per f q := by
  obtain ⟨c, rfl⟩ := hd
  rw [Int.mul_comm]
  exact h.mul c

theorem Per.gcd {f : Int → Int} (a b : Nat) : Per f a → Per f b → Per f (Nat.gcd a b : Nat) := by
  induction a, b using Nat.gcd.induction with
  | H0 n => intro _ hb; simpa using hb
  | H1 m n hm ih =>
    intro ha hb
    rw [Nat.gcd_rec]
    refine ih ?_ ha
    have h1 : Per f ((n : Int) + -((n / m : Nat) : Int) * (m : Int)) := hb.add (ha.mul _)
    have e : ((n : Int) + -((n / m : Nat) : Int) * (m : Int)) = ((n % m : Nat) : Int) := by
      have h2 := Nat.div_add_mod n m
      have h3 : ((m * (n / m) + n % m : Nat) : Int) = (n : Int) := by rw [h2]
      rw [Int.natCast_add, Int.natCast_mul] at h3
      rw [Int.neg_mul, Int.mul_comm ((n / m : Nat) : Int)]
      omega
    rwa [e] at h1

/-- Reduced into a period. -/
theorem Per.mod {f : Int → Int} {p : Int} (h : Per f p) (x : Int) : f (x % p) = f x := by
  have := h.mul (x / p) (x % p)
  rw [← this, Int.emod_add_ediv_mul x p]

theorem acc_shift1 {f : Int → Int} {r : Nat} (h : Per f r) (a : Int) : acc f (a + 1) r = acc f a r := by
  have h1 := acc_succ' f a r
  simp only [acc] at h1
  rw [h] at h1
  omega

theorem acc_shiftNat {f : Int → Int} {r : Nat} (h : Per f r) (a : Int) (k : Nat) : acc f (a + k) r = acc f a r := by
  induction k with
  | zero => simp
  | succ k ih => rw [← ih, ← acc_shift1 h (a + k)]; congr 1; omega

/-- A whole period has the same sum from wherever. -/
theorem acc_whole {f : Int → Int} {r : Nat} (h : Per f r) (a b : Int) : acc f a r = acc f b r := by
  rcases Int.le_total a b with hab | hab
  · obtain ⟨k, hk⟩ := Int.eq_ofNat_of_zero_le (show 0 ≤ b - a by omega)
    rw [show b = a + k from by omega, acc_shiftNat h]
  · obtain ⟨k, hk⟩ := Int.eq_ofNat_of_zero_le (show 0 ≤ a - b by omega)
    rw [show a = b + k from by omega, acc_shiftNat h]

theorem acc_rounds {f : Int → Int} {r : Nat} (h : Per f r) (a : Int) (q s : Nat) : acc f a (q * r + s) = q * acc f 0 r + acc f a s := by
  induction q with
  | zero => simp
  | succ q ih =>
    have e : (q + 1) * r + s = (q * r + s) + r := by rw [Nat.add_mul]; omega
    rw [e, acc_add, ih, acc_whole h (a + ((q * r + s : Nat) : Int)) 0, show ((q + 1 : Nat) : Int) = (q : Int) + 1 from rfl, Int.add_mul]
    omega

/-- Whole rounds, and the rest: the sum. -/
theorem acc_parts {f : Int → Int} {r : Nat} (h : Per f r) (a : Int) (n : Nat) : ((n / r : Nat) : Int) * acc f 0 r + acc f a (n % r) = acc f a n := by
  rw [← acc_rounds h]
  congr 1
  rw [Nat.mul_comm]
  exact Nat.div_add_mod n r

/-- f repeats behind b at the hours of a round. -/
def repB (f : Int → Int) (r b : Nat) : Bool := (List.range r).all fun h => f h == f ((h : Int) + b)

theorem repB_per {f : Int → Int} {r b : Nat} (hr : 0 < r) (h : Per f r) : repB f r b = true ↔ Per f b := by
  unfold repB
  rw [List.all_eq_true]
  constructor
  · intro hh x
    have h1 := hh (x % r).toNat (List.mem_range.2 (by have := Int.emod_lt_of_pos x (show (0 : Int) < r by omega); have := Int.emod_nonneg x (show (r : Int) ≠ 0 by omega); omega))
    rw [Int.toNat_of_nonneg (Int.emod_nonneg x (by omega))] at h1
    have h1 := eq_of_beq h1
    rw [h.mod] at h1
    rw [h1]
    have h2 := h.mul (x / r) (x % r + b)
    rw [← h2]
    congr 1
    have := Int.emod_add_ediv_mul x r
    omega
  · intro hh x _
    rw [hh]; simp

/-- The first divisor b of r from k on with that, within so many tries; else r. -/
def btFrom (f : Int → Int) (r : Nat) : Nat → Nat → Nat
  | 0, _ => r
  | n + 1, b => if r % b = 0 ∧ repB f r b = true then b else btFrom f r n (b + 1)

/-- The beat. -/
def bt (f : Int → Int) (r : Nat) : Nat := btFrom f r (r - 1) 1

theorem btFrom_spec {f : Int → Int} {r : Nat} : ∀ (n b : Nat), b + n = r → 0 < b →
    (btFrom f r n b = r ∨ (b ≤ btFrom f r n b ∧ btFrom f r n b < r ∧ r % btFrom f r n b = 0 ∧ repB f r (btFrom f r n b) = true)) ∧
    (∀ c, b ≤ c → c < btFrom f r n b → ¬ (r % c = 0 ∧ repB f r c = true))
  | 0, b, hb, h0 => ⟨Or.inl rfl, fun c h1 h2 => by simp only [btFrom] at h2; omega⟩
  | n + 1, b, hb, h0 => by
    unfold btFrom
    split
    · rename_i hc
      exact ⟨Or.inr ⟨Nat.le_refl _, by omega, hc.1, hc.2⟩, fun c h1 h2 => by omega⟩
    · rename_i hc
      obtain ⟨h1, h2⟩ := btFrom_spec (f := f) (r := r) n (b + 1) (by omega) (by omega)
      refine ⟨?_, fun c hc1 hc2 => ?_⟩
      · rcases h1 with h1 | ⟨h1, h3⟩
        · exact Or.inl h1
        · exact Or.inr ⟨by omega, h3⟩
      · by_cases e : c = b
        · subst e; exact hc
        · exact h2 c (by omega) hc2

theorem bt_pos {f : Int → Int} {r : Nat} (hr : 0 < r) : 0 < bt f r := by
  rcases (btFrom_spec (f := f) (r := r) (r - 1) 1 (by omega) (by omega)).1 with h | h
  · unfold bt; omega
  · unfold bt; omega

theorem bt_le {f : Int → Int} {r : Nat} (hr : 0 < r) : bt f r ≤ r := by
  rcases (btFrom_spec (f := f) (r := r) (r - 1) 1 (by omega) (by omega)).1 with h | h
  · unfold bt; omega
  · unfold bt; omega

theorem bt_mod {f : Int → Int} {r : Nat} (hr : 0 < r) : r % bt f r = 0 := by
  rcases (btFrom_spec (f := f) (r := r) (r - 1) 1 (by omega) (by omega)).1 with h | h
  · unfold bt; rw [h]; exact Nat.mod_self _
  · unfold bt; exact h.2.2.1

theorem bt_per {f : Int → Int} {r : Nat} (hr : 0 < r) (h : Per f r) : Per f (bt f r : Nat) := by
  rcases (btFrom_spec (f := f) (r := r) (r - 1) 1 (by omega) (by omega)).1 with h1 | h1
  · unfold bt; rw [h1]; exact h
  · unfold bt; exact (repB_per hr h).1 h1.2.2.2

theorem bt_least {f : Int → Int} {r : Nat} (hr : 0 < r) (h : Per f r) {c : Nat} (hc : 0 < c) (hd : r % c = 0) (hp : Per f c) : bt f r ≤ c := by
  rcases Nat.lt_or_ge c (bt f r) with hlt | hge
  · exact absurd ⟨hd, (repB_per hr h).2 hp⟩ ((btFrom_spec (f := f) (r := r) (r - 1) 1 (by omega) (by omega)).2 c hc hlt)
  · exact hge

/-- The beat divides every period. -/
theorem bt_dvd {f : Int → Int} {r : Nat} (hr : 0 < r) (h : Per f r) {p : Nat} (hp : Per f p) : bt f r ∣ p := by
  have hb := bt_per hr h
  have hg := Per.gcd (bt f r) p hb hp
  have h0 := bt_pos (f := f) hr
  have hgp : 0 < Nat.gcd (bt f r) p := Nat.gcd_pos_of_pos_left _ h0
  have hd : r % Nat.gcd (bt f r) p = 0 :=
    Nat.mod_eq_zero_of_dvd (Nat.dvd_trans (Nat.gcd_dvd_left _ _) (Nat.dvd_of_mod_eq_zero (bt_mod hr)))
  have h1 := bt_least hr h hgp hd hg
  have h2 : Nat.gcd (bt f r) p ≤ bt f r := Nat.gcd_le_left _ h0
  have h3 : Nat.gcd (bt f r) p = bt f r := by omega
  rw [← h3]
  exact Nat.gcd_dvd_right _ _

theorem bt_iff {f : Int → Int} {r : Nat} (hr : 0 < r) (h : Per f r) (p : Nat) : Per f p ↔ p % bt f r = 0 :=
  ⟨fun hp => Nat.mod_eq_zero_of_dvd (bt_dvd hr h hp), fun hd => (bt_per hr h).dvd (Int.ofNat_dvd.2 (Nat.dvd_of_mod_eq_zero hd))⟩

/-- Two functions that are equal everywhere have one beat, whatever their rounds. -/
theorem bt_same {f g : Int → Int} {r s : Nat} (hr : 0 < r) (hs : 0 < s) (hf : Per f r) (hg : Per g s) (e : ∀ x, f x = g x) : bt f r = bt g s := by
  have hfg : f = g := funext e
  subst hfg
  exact Nat.dvd_antisymm (bt_dvd hr hf (bt_per hs hg)) (bt_dvd hs hg (bt_per hr hf))

/-! ### Tides -/

/-- The speed of a wave at an hour. -/
def wat (l : List Int) (h : Int) : Int := l.getD (h % (l.length : Int)).toNat 0

/-- The speed of a tide. -/
def spd (t : List (List Int)) (h : Int) : Int := (t.map (wat · h)).sum

/-- The round of a tide. -/
def rnd (t : List (List Int)) : Nat := t.foldl (fun r l => Nat.lcm r l.length) 1

/-- A valid wave, and a valid tide. -/
def wvld (l : List Int) : Bool := decide (1 ≤ l.length) && decide (l.length ≤ 12) && l.all fun n => decide (-100 ≤ n) && decide (n ≤ 100)
def vld (t : List (List Int)) : Bool := decide (1 ≤ t.length) && decide (t.length ≤ 4) && t.all wvld

structure Vld (t : List (List Int)) : Prop where
  lo : 1 ≤ t.length
  hi : t.length ≤ 4
  wave : ∀ l ∈ t, 1 ≤ l.length ∧ l.length ≤ 12 ∧ ∀ n ∈ l, -100 ≤ n ∧ n ≤ 100

theorem wvld_iff (l : List Int) : wvld l = true ↔ 1 ≤ l.length ∧ l.length ≤ 12 ∧ ∀ n ∈ l, -100 ≤ n ∧ n ≤ 100 := by
  simp [wvld, and_assoc]

theorem vld_iff (t : List (List Int)) : vld t = true ↔ Vld t := by
  simp only [vld, Bool.and_eq_true, decide_eq_true_eq, List.all_eq_true, wvld_iff]
  exact ⟨fun h => ⟨h.1.1, h.1.2, h.2⟩, fun h => ⟨⟨h.lo, h.hi⟩, h.wave⟩⟩

theorem wat_bound {l : List Int} (h : ∀ n ∈ l, -100 ≤ n ∧ n ≤ 100) (x : Int) : -100 ≤ wat l x ∧ wat l x ≤ 100 := by
  unfold wat
  rw [List.getD_eq_getElem?_getD]
  cases e : l[(x % (l.length : Int)).toNat]? with
  | none => simp
  | some y => simpa using h y (List.mem_of_getElem? e)

theorem wat_per (l : List Int) : Per (wat l) l.length := fun x => by
  unfold wat; rw [Int.add_emod_right]

theorem spd_nil (h : Int) : spd [] h = 0 := rfl
theorem spd_cons (l : List Int) (t : List (List Int)) (h : Int) : spd (l :: t) h = wat l h + spd t h := by simp [spd]
theorem spd_append (t u : List (List Int)) (h : Int) : spd (t ++ u) h = spd t h + spd u h := by simp [spd]

theorem spd_bound : ∀ (t : List (List Int)), (∀ l ∈ t, ∀ n ∈ l, -100 ≤ n ∧ n ≤ 100) → ∀ h, -(100 * (t.length : Int)) ≤ spd t h ∧ spd t h ≤ 100 * t.length
  | [], _, h => by simp [spd]
  | l :: t, ht, h => by
    have h1 := wat_bound (ht l (by simp)) h
    have h2 := spd_bound t (fun l hl => ht l (by simp [hl])) h
    rw [spd_cons, List.length_cons]
    omega

theorem Vld.bd {t : List (List Int)} (h : Vld t) (x : Int) : -400 ≤ spd t x ∧ spd t x ≤ 400 := by
  have h1 := spd_bound t (fun l hl => (h.wave l hl).2.2) x
  have := h.hi
  omega

theorem rnd_fold_pos : ∀ (t : List (List Int)) (r : Nat), 0 < r → (∀ l ∈ t, 1 ≤ l.length) → 0 < t.foldl (fun r l => Nat.lcm r l.length) r
  | [], r, h, _ => h
  | l :: t, r, h, ht => rnd_fold_pos t _ (Nat.lcm_pos h (ht l (by simp))) (fun l hl => ht l (by simp [hl]))

theorem rnd_fold_dvd : ∀ (t : List (List Int)) (r : Nat), r ∣ t.foldl (fun r l => Nat.lcm r l.length) r ∧ ∀ l ∈ t, l.length ∣ t.foldl (fun r l => Nat.lcm r l.length) r
  | [], r => ⟨Nat.dvd_refl _, by simp⟩
  | l :: t, r => by
    obtain ⟨h1, h2⟩ := rnd_fold_dvd t (Nat.lcm r l.length)
    refine ⟨Nat.dvd_trans (Nat.dvd_lcm_left _ _) h1, fun m hm => ?_⟩
    rcases List.mem_cons.1 hm with rfl | hm
    · exact Nat.dvd_trans (Nat.dvd_lcm_right _ _) h1
    · exact h2 m hm

theorem rnd_fold_least : ∀ (t : List (List Int)) (r n : Nat), r ∣ n → (∀ l ∈ t, l.length ∣ n) → t.foldl (fun r l => Nat.lcm r l.length) r ∣ n
  | [], r, n, h, _ => h
  | l :: t, r, n, h, ht => rnd_fold_least t _ n (Nat.lcm_dvd h (ht l (by simp))) (fun m hm => ht m (by simp [hm]))

theorem Vld.rnd_pos {t : List (List Int)} (h : Vld t) : 0 < rnd t := rnd_fold_pos t 1 (by omega) (fun l hl => (h.wave l hl).1)

theorem le12_dvd {n : Nat} (h1 : 1 ≤ n) (h2 : n ≤ 12) : n ∣ 27720 := by
  have : ∀ m, m < 12 → (m + 1) ∣ 27720 := by decide
  have := this (n - 1) (by omega)
  rwa [show n - 1 + 1 = n from by omega] at this

theorem Vld.rnd_all {t : List (List Int)} (h : Vld t) : rnd t ∣ 27720 :=
  rnd_fold_least t 1 27720 (Nat.one_dvd _) (fun l hl => le12_dvd (h.wave l hl).1 (h.wave l hl).2.1)

theorem Vld.rnd_le {t : List (List Int)} (h : Vld t) : rnd t ≤ 27720 := Nat.le_of_dvd (by omega) h.rnd_all

theorem spd_per_of {n : Nat} : ∀ (t : List (List Int)), (∀ l ∈ t, l.length ∣ n) → Per (spd t) n
  | [], _ => fun x => rfl
  | l :: t, h => fun x => by
    rw [spd_cons, spd_cons, spd_per_of t (fun m hm => h m (by simp [hm])) x, (wat_per l).dvd (Int.ofNat_dvd.2 (h l (by simp))) x]

theorem spd_per (t : List (List Int)) : Per (spd t) (rnd t : Nat) := spd_per_of t (rnd_fold_dvd t 1).2

theorem Vld.per_all {t : List (List Int)} (h : Vld t) : Per (spd t) 27720 := by
  have := (spd_per t).dvd (Int.ofNat_dvd.2 h.rnd_all)
  exact this

end Go.Proofs.YtbgflacfemeblaaDoor
