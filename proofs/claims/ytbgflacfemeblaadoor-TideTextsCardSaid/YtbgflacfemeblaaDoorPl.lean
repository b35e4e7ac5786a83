/- Plain: the tide of a text, as the program reads it and as the reference does. -/
import Derived.Test.YtbgflacfemeblaaDoorTf
import Derived.Test.YtbgflacfemeblaaDoorSq
import Derived.Lib.AtoiAll
namespace Go.Proofs.YtbgflacfemeblaaDoor
open Go.RowKit Go.Shelf

/-- A number as the program reads it; none: an error. -/
def numP (s : ByteArray) : Option Int := match Lib.atoiAll s.data.toList with
  | .ok n => some n
  | _ => none
/-- All of a list, or none. -/
def allS {α β : Type} (f : α → Option β) : List α → Option (List β)
  | [] => some []
  | x :: xs => match f x, allS f xs with
    | some y, some ys => some (y :: ys)
    | _, _ => none
theorem allS_snoc {α β : Type} (f : α → Option β) (xs : List α) (x : α) : allS f (xs ++ [x]) = match allS f xs, f x with
    | some ys, some y => some (ys ++ [y])
    | _, _ => none := by
  induction xs with
  | nil => simp only [List.nil_append, allS]; cases f x <;> rfl
  | cons z zs ih =>
    rw [List.cons_append, allS, ih]
    cases h1 : f z <;> cases h2 : allS f zs <;> cases h3 : f x <;> simp [allS, h1, h2]
theorem allS_bad {α β : Type} (f : α → Option β) (xs : List α) {x : α} (hx : x ∈ xs) (h : f x = none) : allS f xs = none := by
  induction xs with
  | nil => simp at hx
  | cons z zs ih =>
    rcases List.mem_cons.1 hx with rfl | hx
    · simp [allS, h]
    · rw [allS, ih hx]; cases f z <;> rfl
theorem allS_map {α β : Type} (f : α → Option β) (g : β → α) (ys : List β) (h : ∀ y ∈ ys, f (g y) = some y) : allS f (ys.map g) = some ys := by
  induction ys with
  | nil => rfl
  | cons y ys ih => rw [List.map_cons, allS, h y (by simp), ih (fun z hz => h z (by simp [hz]))]
theorem allS_len {α β : Type} (f : α → Option β) : ∀ (xs : List α) (ys : List β), allS f xs = some ys → ys.length = xs.length
  | [], ys, h => by simp only [allS, Option.some.injEq] at h; subst h; rfl
  | x :: xs, ys, h => by
    rw [allS] at h
    cases h1 : f x <;> cases h2 : allS f xs <;> simp [h1, h2] at h
    subst h
    simp [allS_len f xs _ h2]

def wavP (s : ByteArray) : Option (List Int) := allS numP (splitA 44 s)
def rawP (s : ByteArray) : Option (List (List Int)) := allS wavP (splitA 59 s)
/-- What the program's Parse finds. -/
def parP (s : ByteArray) : Option (List (List Int)) := if 240 < s.size then none else match rawP s with
  | none => none
  | some t => if vld t && decide (texL t = s.data.toList) then some t else none

/-! ### Splitting what was joined -/
theorem splitC_none {c : UInt8} : ∀ {l : List UInt8}, (∀ x ∈ l, x ≠ c) → splitC c l = [l]
  | [], _ => rfl
  | b :: r, h => by
    have hb : (b == c) = false := by simpa using h b (by simp)
    rw [splitC, splitC_none (fun x hx => h x (by simp [hx]))]
    simp [hb]
theorem splitC_app {c : UInt8} : ∀ {l : List UInt8} (r : List UInt8), (∀ x ∈ l, x ≠ c) → splitC c (l ++ c :: r) = l :: splitC c r
  | [], r, _ => by simp [splitC]
  | b :: l, r, h => by
    have hb : (b == c) = false := by simpa using h b (by simp)
    rw [List.cons_append, splitC, splitC_app r (fun x hx => h x (by simp [hx]))]
    simp [hb]
theorem splitC_join {c : UInt8} : ∀ (xs : List (List UInt8)), xs ≠ [] → (∀ x ∈ xs, ∀ b ∈ x, b ≠ c) → splitC c (Lib.join xs [c]) = xs
  | [], h, _ => absurd rfl h
  | [x], _, h => by rw [Lib.join_one]; exact splitC_none (h x (by simp))
  | x :: y :: r, _, h => by
    have h1 : Lib.join (x :: y :: r) [c] = x ++ c :: Lib.join (y :: r) [c] := by
      rw [Lib.join_cons, Lib.join_cons]; simp [Lib.joinTail]
    rw [h1, splitC_app _ (h x (by simp)), splitC_join (y :: r) (by simp) (fun z hz => h z (by simp [hz]))]
theorem splitA_join {c : UInt8} (xs : List (List UInt8)) (h0 : xs ≠ []) (h : ∀ x ∈ xs, ∀ b ∈ x, b ≠ c) : splitA c (bsB (Lib.join xs [c])) = xs.map bsB := by
  unfold splitA
  rw [show (bsB (Lib.join xs [c])).data.toList = Lib.join xs [c] from by simp [bsB], splitC_join xs h0 h]
  rfl

/-! ### The numerals from -100 to 100 -/
def numbs : List Int := (List.range 201).map fun (i : Nat) => (i : Int) - 100
theorem mem_numbs {n : Int} (h0 : -100 ≤ n) (h1 : n ≤ 100) : n ∈ numbs := List.mem_map.2 ⟨(n + 100).toNat, List.mem_range.2 (by omega), by omega⟩
/-- What a row of digits and signs leaves of (number, sign) as the reference reads it. -/
def eat : List UInt8 → Int → Int → Option (Int × Int)
  | [], a, b => some (a, b)
  | x :: r, a, b => if x = 45 then eat r a (-1) else if 48 ≤ x.toNat ∧ x.toNat ≤ 57 then eat r (min (10 * a + (x.toNat - 48 : Nat)) 1000) b else none
def numB (n : Int) : Bool := decide (Lib.atoiAll (Lib.itoa n) = .ok n) && decide (eat (Lib.itoa n) 0 1 = some ((n.natAbs : Int), if n < 0 then (-1 : Int) else 1)) && (Lib.itoa n).all fun b => decide (b ≠ 44) && decide (b ≠ 59)
theorem numbs_ok : numbs.all numB = true := by decide +kernel
theorem numb_facts {n : Int} (h0 : -100 ≤ n) (h1 : n ≤ 100) : Lib.atoiAll (Lib.itoa n) = .ok n ∧ eat (Lib.itoa n) 0 1 = some ((n.natAbs : Int), if n < 0 then (-1 : Int) else 1) ∧ ∀ b ∈ Lib.itoa n, b ≠ 44 ∧ b ≠ 59 := by
  have := List.all_eq_true.1 numbs_ok n (mem_numbs h0 h1)
  unfold numB at this
  simp only [Bool.and_eq_true, decide_eq_true_eq, List.all_eq_true] at this
  exact ⟨this.1.1, this.1.2, fun b hb => this.2 b hb⟩

theorem mem_join {b : UInt8} {sep : List UInt8} : ∀ {xs : List (List UInt8)}, b ∈ Lib.join xs sep → b ∈ sep ∨ ∃ x ∈ xs, b ∈ x
  | [], h => by rw [Lib.join_nil] at h; simp at h
  | x :: xs, h => by
    rw [Lib.join_cons, List.mem_append] at h
    rcases h with h | h
    · exact .inr ⟨x, by simp, h⟩
    · unfold Lib.joinTail at h
      obtain ⟨l, hl, hb⟩ := List.mem_flatten.1 h
      obtain ⟨y, hy, rfl⟩ := List.mem_map.1 hl
      rcases List.mem_append.1 hb with hb | hb
      · exact .inl hb
      · exact .inr ⟨y, by simp [hy], hb⟩

theorem wav_ok {l : List Int} (h : wvld l = true) : wavP (bsB (texW l)) = some l := by
  obtain ⟨h1, _, h3⟩ := (wvld_iff l).1 h
  unfold wavP texW
  rw [splitA_join _ (by intro e; rw [List.map_eq_nil_iff] at e; subst e; simp at h1) (fun x hx b hb => by
    obtain ⟨n, hn, rfl⟩ := List.mem_map.1 hx
    exact ((numb_facts (h3 n hn).1 (h3 n hn).2).2.2 b hb).1), List.map_map]
  exact allS_map _ _ _ fun n hn => by
    show numP (bsB (Lib.itoa n)) = some n
    unfold numP
    rw [show (bsB (Lib.itoa n)).data.toList = Lib.itoa n from by simp [bsB], (numb_facts (h3 n hn).1 (h3 n hn).2).1]
theorem texW_no {l : List Int} (h : wvld l = true) : ∀ b ∈ texW l, b ≠ 59 := by
  obtain ⟨_, _, h3⟩ := (wvld_iff l).1 h
  intro b hb
  rcases mem_join hb with hb | ⟨x, hx, hb⟩
  · simp at hb; subst hb; decide
  · obtain ⟨n, hn, rfl⟩ := List.mem_map.1 hx
    exact ((numb_facts (h3 n hn).1 (h3 n hn).2).2.2 b hb).2
theorem raw_ok {t : List (List Int)} (h : Vld t) : rawP (bsB (texL t)) = some t := by
  have hw : ∀ l ∈ t, wvld l = true := fun l hl => (wvld_iff l).2 (h.wave l hl)
  unfold rawP texL
  rw [splitA_join _ (by intro e; rw [List.map_eq_nil_iff] at e; have := h.lo; subst e; simp at this) (fun x hx b hb => by
    obtain ⟨l, hl, rfl⟩ := List.mem_map.1 hx
    exact texW_no (hw l hl) b hb), List.map_map]
  exact allS_map _ _ _ fun l hl => wav_ok (hw l hl)

/-! ### Lengths: at most five bytes a number -/
def lenB (n : Int) : Bool := decide ((Lib.itoa n).length ≤ 4)
theorem lens_ok : numbs.all lenB = true := by decide +kernel
theorem itoa4 {n : Int} (h0 : -100 ≤ n) (h1 : n ≤ 100) : (Lib.itoa n).length ≤ 4 := by
  have := List.all_eq_true.1 lens_ok n (mem_numbs h0 h1)
  simpa [lenB] using this
theorem join_len1 (sep : UInt8) (B : Nat) (xs : List (List UInt8)) (h : ∀ x ∈ xs, x.length ≤ B) (h0 : xs ≠ []) : (Lib.join xs [sep]).length + 1 ≤ xs.length * (B + 1) := by
  cases xs with
  | nil => exact absurd rfl h0
  | cons y ys =>
    rw [Lib.join_cons, List.length_append]
    have h1 := h y (by simp)
    have h2 : (Lib.joinTail [sep] ys).length ≤ ys.length * (B + 1) := by
      have hy : ∀ x ∈ ys, x.length ≤ B := fun x hx => h x (by simp [hx])
      clear h h1 h0
      induction ys with
      | nil => simp [Lib.joinTail]
      | cons z zs ih =>
        have h3 := ih (fun x hx => hy x (by simp [hx]))
        have h4 := hy z (by simp)
        simp only [Lib.joinTail, List.map_cons, List.flatten_cons, List.length_append, List.length_cons, List.length_nil] at h3 ⊢
        rw [Nat.add_mul]
        omega
    rw [List.length_cons, Nat.add_mul]
    omega
theorem texL_len240 {t : List (List Int)} (h : Vld t) : (texL t).length ≤ 240 := by
  have hw : ∀ l ∈ t, (texW l).length ≤ 59 := fun l hl => by
    obtain ⟨h1, h2, h3⟩ := h.wave l hl
    have := join_len1 44 4 (l.map Lib.itoa) (fun x hx => by
      obtain ⟨n, hn, rfl⟩ := List.mem_map.1 hx
      exact itoa4 (h3 n hn).1 (h3 n hn).2) (by intro e; rw [List.map_eq_nil_iff] at e; subst e; simp at h1)
    rw [List.length_map] at this
    unfold texW
    omega
  have h4 := h.hi
  have := join_len1 59 59 (t.map texW) (fun x hx => by
    obtain ⟨l, hl, rfl⟩ := List.mem_map.1 hx
    exact hw l hl) (by intro e; rw [List.map_eq_nil_iff] at e; have := h.lo; subst e; simp at this)
  rw [List.length_map] at this
  unfold texL
  omega

/-- THE PROGRAM: it finds a tide exactly if the text is its text. -/
theorem parP_iff (s : ByteArray) (t : List (List Int)) : parP s = some t ↔ vld t = true ∧ texL t = s.data.toList := by
  unfold parP
  constructor
  · intro h
    split at h
    · cases h
    · split at h
      · cases h
      · rename_i u hu
        split at h
        · rename_i hc
          cases h
          simpa using hc
        · cases h
  · rintro ⟨h1, h2⟩
    have hV := (vld_iff t).1 h1
    have hs : s = bsB (texL t) := by rw [h2]; apply ba_ext2; simp [bsB]
    have hl := texL_len240 hV
    have hsz : ¬ 240 < s.size := by rw [hs, bsB_size]; omega
    rw [if_neg hsz, hs, raw_ok hV]
    simp [h1, bsB]

/-! ### The reference -/
/-- The reference's reading: rows that are done, the row at hand, the number and its sign. -/
def scanF : List UInt8 → List (List Int) → List Int → Int → Int → Option (List (List Int))
  | [], d, c, n, g => if 4 < d.length + 1 ∨ 12 ≤ c.length then none else some (d ++ [c ++ [g * n]])
  | b :: r, d, c, n, g => if b = 45 then scanF r d c n (-1) else if 48 ≤ b.toNat ∧ b.toNat ≤ 57 then scanF r d c (min (10 * n + (b.toNat - 48 : Nat)) 1000) g else
    if 4 < d.length + 1 ∨ 12 ≤ c.length then none else if b = 59 then scanF r (d ++ [c ++ [g * n]]) [] 0 1 else scanF r d (c ++ [g * n]) 0 1
def parR (s : ByteArray) : Option (List (List Int)) := match scanF s.data.toList [] [] 0 1 with
  | none => none
  | some t => if vld t && decide (texL t = s.data.toList) then some t else none

theorem scan_eat : ∀ (l r : List UInt8) (d : List (List Int)) (c : List Int) (a g a' g' : Int), eat l a g = some (a', g') → scanF (l ++ r) d c a g = scanF r d c a' g'
  | [], r, d, c, a, g, a', g', h => by
    simp only [eat, Option.some.injEq, Prod.mk.injEq] at h
    rw [h.1, h.2]; rfl
  | x :: l, r, d, c, a, g, a', g', h => by
    rw [List.cons_append, scanF]
    rw [eat] at h
    split at h
    · rename_i hx; rw [if_pos hx]; exact scan_eat l r d c _ _ _ _ h
    · rename_i hx
      rw [if_neg hx]
      split at h
      · rename_i hd; rw [if_pos hd]; exact scan_eat l r d c _ _ _ _ h
      · cases h
theorem sgn_abs (n : Int) : (if n < 0 then (-1 : Int) else 1) * (n.natAbs : Int) = n := by split <;> omega
theorem scan_num {n : Int} (h0 : -100 ≤ n) (h1 : n ≤ 100) (r : List UInt8) (d : List (List Int)) (c : List Int) :
    scanF (Lib.itoa n ++ r) d c 0 1 = scanF r d c (n.natAbs : Int) (if n < 0 then (-1 : Int) else 1) := scan_eat _ _ _ _ _ _ _ _ (numb_facts h0 h1).2.1
theorem scan_wave : ∀ (l : List Int) (r : List UInt8) (d : List (List Int)) (c : List Int), l ≠ [] → (∀ n ∈ l, -100 ≤ n ∧ n ≤ 100) → d.length + 1 ≤ 4 → c.length + l.length ≤ 12 → (r = [] ∨ ∃ r', r = 59 :: r') →
    scanF (Lib.join (l.map Lib.itoa) [44] ++ r) d c 0 1 = match r with
      | [] => some (d ++ [c ++ l])
      | _ :: r' => scanF r' (d ++ [c ++ l]) [] 0 1
  | [], _, _, _, h, _, _, _, _ => absurd rfl h
  | [n], r, d, c, _, h, hd, hc, hr => by
    have hn := h n (by simp)
    rw [List.map_cons, List.map_nil, Lib.join_one, scan_num hn.1 hn.2]
    have hcond : ¬ (4 < d.length + 1 ∨ 12 ≤ c.length) := by simp at hc; omega
    rcases hr with rfl | ⟨r', rfl⟩
    · rw [scanF, if_neg hcond, sgn_abs]
    · rw [scanF, if_neg (by decide), if_neg (by decide), if_neg hcond, if_pos rfl, sgn_abs]
  | n :: m :: l, r, d, c, _, h, hd, hc, hr => by
    have hn := h n (by simp)
    have h1 : Lib.join ((n :: m :: l).map Lib.itoa) [44] ++ r = Lib.itoa n ++ 44 :: (Lib.join ((m :: l).map Lib.itoa) [44] ++ r) := by
      rw [List.map_cons, List.map_cons, Lib.join_cons, Lib.join_cons]; simp [Lib.joinTail]
    have hcond : ¬ (4 < d.length + 1 ∨ 12 ≤ c.length) := by simp at hc; omega
    rw [h1, scan_num hn.1 hn.2, scanF, if_neg (by decide), if_neg (by decide), if_neg hcond, if_neg (by decide), sgn_abs,
      scan_wave (m :: l) r d (c ++ [n]) (by simp) (fun x hx => h x (by simp [hx])) hd (by simp at hc ⊢; omega) hr]
    cases r <;> simp
theorem scan_tide : ∀ (t d : List (List Int)), t ≠ [] → (∀ l ∈ t, l ≠ [] ∧ l.length ≤ 12 ∧ ∀ n ∈ l, -100 ≤ n ∧ n ≤ 100) → d.length + t.length ≤ 4 → scanF (Lib.join (t.map texW) [59]) d [] 0 1 = some (d ++ t)
  | [], _, h, _, _ => absurd rfl h
  | [l], d, _, h, hd => by
    obtain ⟨h1, h2, h3⟩ := h l (by simp)
    have := scan_wave l [] d [] h1 h3 (by simpa using hd) (by simpa using h2) (.inl rfl)
    rw [List.append_nil] at this
    rw [List.map_cons, List.map_nil, Lib.join_one]
    simpa [texW] using this
  | l :: m :: t, d, _, h, hd => by
    obtain ⟨h1, h2, h3⟩ := h l (by simp)
    have e : Lib.join ((l :: m :: t).map texW) [59] = texW l ++ 59 :: Lib.join ((m :: t).map texW) [59] := by
      rw [List.map_cons, List.map_cons, Lib.join_cons, Lib.join_cons]; simp [Lib.joinTail]
    have := scan_wave l (59 :: Lib.join ((m :: t).map texW) [59]) d [] h1 h3 (by simp at hd; omega) (by simpa using h2) (.inr ⟨_, rfl⟩)
    rw [e, show texW l = Lib.join (l.map Lib.itoa) [44] from rfl, this]
    show scanF (Lib.join ((m :: t).map texW) [59]) (d ++ [[] ++ l]) [] 0 1 = _
    rw [List.nil_append, scan_tide (m :: t) (d ++ [l]) (by simp) (fun x hx => h x (by simp [hx])) (by simp at hd ⊢; omega)]
    simp

/-- THE REFERENCE: likewise. -/
theorem parR_iff (s : ByteArray) (t : List (List Int)) : parR s = some t ↔ vld t = true ∧ texL t = s.data.toList := by
  unfold parR
  constructor
  · intro h
    split at h
    · cases h
    · split at h
      · rename_i hc
        cases h
        simpa using hc
      · cases h
  · rintro ⟨h1, h2⟩
    have hV := (vld_iff t).1 h1
    have hh := hV.hi
    have hlo := hV.lo
    have := scan_tide t [] (by intro e; subst e; simp at hlo) (fun l hl => by
      obtain ⟨a, b, c⟩ := hV.wave l hl
      exact ⟨by intro e; subst e; simp at a, b, c⟩) (by simpa using hh)
    rw [← h2, show texL t = Lib.join (t.map texW) [59] from rfl, this]
    simp [h1, texL]
theorem par_same (s : ByteArray) : parP s = parR s := by
  cases h : parR s with
  | none =>
    cases h2 : parP s with
    | none => rfl
    | some t =>
      have := (parR_iff s t).2 ((parP_iff s t).1 h2)
      rw [h] at this
      cases this
  | some t => exact (parP_iff s t).2 ((parR_iff s t).1 h)
theorem par_tex {t : List (List Int)} (h : vld t = true) : parP (bsB (texL t)) = some t := (parP_iff _ _).2 ⟨h, by simp [bsB]⟩
end Go.Proofs.YtbgflacfemeblaaDoor
