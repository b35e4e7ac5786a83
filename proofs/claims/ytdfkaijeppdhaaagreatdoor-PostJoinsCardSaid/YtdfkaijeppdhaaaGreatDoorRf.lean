/- Plain: the reference's words, numbers and deeds, which are those of the program (Post). -/
import Derived.Test.YtdfkaijeppdhaaaGreatDoorRt
namespace Go.Proofs.YtdfkaijeppdhaaaGreatDoor
open Go

/-! ### cut -/
/-- The first word, what stands behind its space, and whether there is one. -/
def cutR : List UInt8 → List UInt8 × List UInt8 × Bool
  | [] => ([], [], false)
  | b :: r => if b == 32 then ([], r, true) else (b :: (cutR r).1, (cutR r).2.1, (cutR r).2.2)
theorem cutR_split : ∀ (l : List UInt8) (k : Nat), splitN 32 (k + 1) l = if (cutR l).2.2 then (cutR l).1 :: splitN 32 k (cutR l).2.1 else [(cutR l).1]
  | [], k => rfl
  | b :: r, k => by
    by_cases hb : b = 32
    · subst hb
      simp [splitN, cutR]
    · have hbc : (b == 32) = false := by simpa using hb
      have ih := cutR_split r k
      simp only [splitN, cutR, hbc, Bool.false_eq_true, if_false]
      rw [ih]
      cases h : (cutR r).2.2 <;> simp
theorem cutR_count : ∀ (l : List UInt8), l.count 32 = if (cutR l).2.2 then (cutR l).2.1.count 32 + 1 else 0
  | [] => rfl
  | b :: r => by
    by_cases hb : b = 32
    · subst hb
      simp [cutR]
    · have hbc : (b == 32) = false := by simpa using hb
      rw [List.count_cons_of_ne hb, cutR_count r]
      simp [cutR, hbc]
theorem cutR_more {l : List UInt8} (h : (cutR l).2.2 = false) : (cutR l).1 = l ∧ (cutR l).2.1 = [] := by
  induction l with
  | nil => exact ⟨rfl, rfl⟩
  | cons b r ih =>
    by_cases hb : b = 32
    · subst hb; simp [cutR] at h
    · have hbc : (b == 32) = false := by simpa using hb
      simp only [cutR, hbc, Bool.false_eq_true, if_false] at h ⊢
      have := ih h
      exact ⟨by rw [this.1], this.2⟩
theorem cutR_app {l : List UInt8} (h : (cutR l).2.2 = true) : l = (cutR l).1 ++ 32 :: (cutR l).2.1 := by
  induction l with
  | nil => simp [cutR] at h
  | cons b r ih =>
    by_cases hb : b = 32
    · subst hb; simp [cutR]
    · have hbc : (b == 32) = false := by simpa using hb
      simp only [cutR, hbc, Bool.false_eq_true, if_false] at h ⊢
      rw [List.cons_append, ← ih h]
/-- The words of a list of bytes. -/
def wordsL (l : List UInt8) : List (List UInt8) := splitN 32 (l.count 32) l
theorem wordsL_cut (l : List UInt8) : wordsL l = if (cutR l).2.2 then (cutR l).1 :: wordsL (cutR l).2.1 else [(cutR l).1] := by
  unfold wordsL
  rw [cutR_count]
  cases h : (cutR l).2.2 with
  | true =>
    have := cutR_split l ((cutR l).2.1.count 32)
    rw [h] at this
    simpa using this
  | false =>
    rw [(cutR_more h).1]
    simp [splitN_zero]
theorem splitA_words (s : ByteArray) : splitA 32 s = (wordsL s.data.toList).map bsB := rfl
theorem wordsL_ne (l : List UInt8) : wordsL l ≠ [] := splitN_ne _ _ _
theorem wordsL_join (l : List UInt8) : Lib.join (wordsL l) [32] = l := splitN_join _ _ _
theorem joinS_words (l : List UInt8) : joinS ((wordsL l).map bsB) = bsB l := by
  unfold joinS
  rw [List.map_map, show ((fun x : ByteArray => x.data.toList) ∘ bsB) = id from rfl, List.map_id, wordsL_join]

/-! ### Numbers -/
def isDig (x : UInt8) : Bool := decide (48 ≤ x.toNat) && decide (x.toNat ≤ 57)
def valD (l : List UInt8) : Nat := l.foldl (fun a x => a * 10 + (x.toNat - 48)) 0
/-- A number without sign and leading zeros, of at most k digits. -/
def natR (l : List UInt8) (k : Nat) : Option Nat :=
  if l.length < 1 ∨ k < l.length ∨ (1 < l.length ∧ l.headD 0 = 48) then none else if l.all isDig then some (valD l) else none
def numR (l : List UInt8) : Option Int := match l with
  | 45 :: r => match natR r 4 with
    | some n => if 0 < n then some (-(n : Int)) else none
    | none => none
  | _ => (natR l 4).map fun n : Nat => (n : Int)
theorem valD_snoc (l : List UInt8) (x : UInt8) : valD (l ++ [x]) = valD l * 10 + (x.toNat - 48) := by unfold valD; rw [List.foldl_append]; rfl
theorem foldD_lt : ∀ (l : List UInt8) (a : Nat), l.all isDig = true → l.foldl (fun a x => a * 10 + (x.toNat - 48)) a < (a + 1) * 10 ^ l.length
  | [], a, _ => by simp
  | x :: l, a, h => by
    simp only [List.all_cons, Bool.and_eq_true] at h
    have hx : 48 ≤ x.toNat ∧ x.toNat ≤ 57 := by have := h.1; unfold isDig at this; simpa using this
    have ih := foldD_lt l (a * 10 + (x.toNat - 48)) h.2
    rw [List.foldl_cons, List.length_cons, Nat.pow_succ]
    have hp : (a * 10 + (x.toNat - 48) + 1) * 10 ^ l.length ≤ ((a + 1) * 10) * 10 ^ l.length := Nat.mul_le_mul_right _ (by omega)
    have e : (a + 1) * (10 ^ l.length * 10) = ((a + 1) * 10) * 10 ^ l.length := by rw [Nat.mul_comm (10 ^ l.length) 10, ← Nat.mul_assoc]
    omega
theorem valD_lt {l : List UInt8} (h : l.all isDig = true) : valD l < 10 ^ l.length := by
  have := foldD_lt l 0 h
  rw [Nat.zero_add, Nat.one_mul] at this
  exact this
theorem foldD_ge : ∀ (l : List UInt8) (a : Nat), a ≤ l.foldl (fun a x => a * 10 + (x.toNat - 48)) a
  | [], a => Nat.le_refl _
  | x :: l, a => by rw [List.foldl_cons]; exact Nat.le_trans (by omega) (foldD_ge l _)
/-- The numeral of what is read without leading zeros. -/
theorem decDigits_val : ∀ (n : Nat) (l : List UInt8), l.length = n → l.all isDig = true → l ≠ [] → (l.length = 1 ∨ l.headD 0 ≠ 48) → Lib.decDigits (valD l) = l
  | 0, l, hn, _, h0, _ => absurd (List.length_eq_zero_iff.1 hn) h0
  | n + 1, l, hn, h, h0, hz => by
    obtain ⟨r, x, rfl⟩ : ∃ r x, l = r ++ [x] := ⟨l.dropLast, l.getLast h0, (List.dropLast_concat_getLast h0).symm⟩
    rw [List.all_append, Bool.and_eq_true] at h
    have hx : 48 ≤ x.toNat ∧ x.toNat ≤ 57 := by have := h.2; unfold isDig at this; simpa using this
    have ex : UInt8.ofNat (48 + (x.toNat - 48)) = x := by
      rw [show 48 + (x.toNat - 48) = x.toNat by omega]; simp
    rw [valD_snoc]
    by_cases hr : r = []
    · subst hr
      rw [show valD [] = 0 from rfl, Lib.decDigits_one (by omega), Nat.zero_mul, Nat.zero_add, ex]
      rfl
    · have hd : (r ++ [x]).headD 0 = r.headD 0 := by cases r with | nil => exact absurd rfl hr | cons a t => rfl
      have hne : r.headD 0 ≠ 48 := by
        rcases hz with hz | hz
        · rw [List.length_append, List.length_singleton] at hz
          exact absurd (List.length_eq_zero_iff.1 (by omega)) hr
        · rw [← hd]; exact hz
      have hrv : 1 ≤ valD r := by
        cases r with
        | nil => exact absurd rfl hr
        | cons a t =>
          have ha : isDig a = true := by have := h.1; simp only [List.all_cons, Bool.and_eq_true] at this; exact this.1
          have ha2 : 48 ≤ a.toNat ∧ a.toNat ≤ 57 := by unfold isDig at ha; simpa using ha
          have hne2 : a.toNat ≠ 48 := fun e => hne (by simp only [List.headD_cons]; exact UInt8.toNat_inj.1 e)
          have := foldD_ge t (0 * 10 + (a.toNat - 48))
          unfold valD
          rw [List.foldl_cons]
          omega
      rw [Lib.decDigits, dif_neg (by omega), show (valD r * 10 + (x.toNat - 48)) / 10 = valD r by omega, show (valD r * 10 + (x.toNat - 48)) % 10 = x.toNat - 48 by omega, ex,
        decDigits_val n r (by simpa using hn) h.1 hr (.inr hne)]
theorem natR_some {l : List UInt8} {k n : Nat} (h : natR l k = some n) : l = Lib.decDigits n ∧ n < 10 ^ k ∧ l.length ≤ k := by
  unfold natR at h
  split at h
  · cases h
  · rename_i hc
    split at h
    · rename_i ha
      simp only [Option.some.injEq] at h
      subst h
      have hl : l ≠ [] := by rintro rfl; simp at hc
      refine ⟨(decDigits_val _ l rfl ha hl ?_).symm, Nat.lt_of_lt_of_le (valD_lt ha) (Nat.pow_le_pow_right (by decide) (by omega)), by omega⟩
      by_cases h1 : l.length = 1
      · exact .inl h1
      · exact .inr fun h2 => hc (.inr (.inr ⟨by have := List.length_pos_iff.2 hl; omega, h2⟩))
    · cases h
theorem decDigits_head {u : Nat} (h : 10 ≤ u) : (Lib.decDigits u).headD 0 ≠ 48 := by
  induction u using Nat.strongRecOn with
  | _ u ih =>
    rw [Lib.decDigits, dif_neg (by omega)]
    have hd : (Lib.decDigits (u / 10) ++ [UInt8.ofNat (48 + u % 10)]).headD 0 = (Lib.decDigits (u / 10)).headD 0 := by
      cases hq : Lib.decDigits (u / 10) with
      | nil => exact absurd hq (decDigits_ne _)
      | cons a t => rfl
    rw [hd]
    by_cases h2 : 10 ≤ u / 10
    · exact ih (u / 10) (by omega) h2
    · rw [Lib.decDigits_one (by omega)]
      intro e
      have : (UInt8.ofNat (48 + u / 10)).toNat = (48 : UInt8).toNat := by rw [show UInt8.ofNat (48 + u / 10) = 48 from e]
      rw [UInt8.toNat_ofNat'] at this
      have h48 : (48 : UInt8).toNat = 48 := rfl
      omega
theorem natR_of {n k : Nat} (h : n < 10 ^ (k + 1)) : natR (Lib.decDigits n) (k + 1) = some n := by
  unfold natR
  have hl : (Lib.decDigits n).length ≤ k + 1 := by rw [Lib.decDigits_length]; exact nDigits_le k n h
  have hp : 1 ≤ (Lib.decDigits n).length := List.length_pos_iff.2 (decDigits_ne n)
  have hc : ¬ ((Lib.decDigits n).length < 1 ∨ k + 1 < (Lib.decDigits n).length ∨ (1 < (Lib.decDigits n).length ∧ (Lib.decDigits n).headD 0 = 48)) := by
    rintro (h1 | h1 | ⟨h1, h2⟩)
    · omega
    · omega
    · by_cases h10 : n < 10
      · rw [Lib.decDigits_one h10] at h1; simp at h1
      · exact decDigits_head (by omega) h2
  rw [if_neg hc, if_pos]
  · exact congrArg some (fold_dec n)
  · rw [List.all_eq_true]
    intro x hx
    have := decDigits_byte n x hx
    unfold isDig
    simp [this]
theorem itoa_atoi {n : Int} (h0 : -9999 ≤ n) (h1 : n ≤ 9999) : Lib.atoiAll (Lib.itoa n) = .ok n := by
  by_cases hn : 0 ≤ n
  · obtain ⟨u, rfl⟩ := Int.eq_ofNat_of_zero_le hn
    exact atoi_nat u (by omega)
  · obtain ⟨u, rfl⟩ : ∃ u : Nat, n = -(u : Int) := ⟨n.natAbs, by omega⟩
    have hi : Lib.itoa (-(u : Int)) = 45 :: Lib.decDigits u := by
      unfold Lib.itoa
      rw [if_pos (by omega), show (-(u : Int)).natAbs = u by omega]
    have hl : (Lib.decDigits u).length ≤ 4 := by rw [Lib.decDigits_length]; exact nDigits_le 3 u (by omega)
    have hm : Lib.parseMag (Lib.decDigits u) = .ok u := by
      unfold Lib.parseMag
      rw [if_neg (decDigits_ne u), parse_dec _ 0 (decDigits_byte u) (by
        have : 10 ^ (Lib.decDigits u).length ≤ 10 ^ 4 := Nat.pow_le_pow_right (by decide) hl
        rw [Nat.zero_mul, Nat.zero_add]
        exact Nat.le_trans this (by decide)), fold_dec u]
    rw [hi]
    have n3 : (45 : UInt8).toNat = 45 := rfl
    unfold Lib.atoiAll
    simp only [n3, or_true, if_true, hm, not_true, false_and, if_false, true_and]
    rw [if_neg (by omega)]
/-- What a number is. -/
theorem numV_iff (s : ByteArray) (v : Int) : numV s = some v ↔ s = itoaB v ∧ -9999 ≤ v ∧ v ≤ 9999 := by
  refine ⟨numV_some, fun ⟨h1, h2, h3⟩ => ?_⟩
  unfold numV
  rw [show s.data.toList = Lib.itoa v by rw [h1]; rfl, itoa_atoi h2 h3]
  simp only
  rw [if_pos (by rw [Bool.and_eq_true, decide_eq_true_eq, betw_iff]; exact ⟨h1.symm, h2, h3⟩)]
theorem dec_no45 (u : Nat) : ∀ r, Lib.decDigits u ≠ 45 :: r := fun r h => by
  have := decDigits_byte u 45 (by rw [h]; simp)
  simp at this
theorem numR_some {l : List UInt8} {v : Int} (h : numR l = some v) : l = Lib.itoa v ∧ -9999 ≤ v ∧ v ≤ 9999 := by
  unfold numR at h
  split at h
  · rename_i r
    split at h
    · rename_i n hn
      split at h
      · simp only [Option.some.injEq] at h
        subst h
        obtain ⟨h1, h2, _⟩ := natR_some hn
        refine ⟨?_, by omega, by omega⟩
        unfold Lib.itoa
        rw [if_pos (by omega), show (-(n : Int)).natAbs = n by omega, ← h1]
      · cases h
    · cases h
  · cases hn : natR l 4 with
    | none => rw [hn] at h; cases h
    | some n =>
      rw [hn] at h
      simp only [Option.map_some, Option.some.injEq] at h
      subst h
      obtain ⟨h1, h2, _⟩ := natR_some hn
      refine ⟨?_, by omega, by omega⟩
      unfold Lib.itoa
      rw [if_neg (by omega), Int.toNat_natCast, ← h1]
theorem numR_of {v : Int} (h0 : -9999 ≤ v) (h1 : v ≤ 9999) : numR (Lib.itoa v) = some v := by
  by_cases hn : 0 ≤ v
  · obtain ⟨u, rfl⟩ := Int.eq_ofNat_of_zero_le hn
    have hi : Lib.itoa (u : Int) = Lib.decDigits u := by unfold Lib.itoa; rw [if_neg (by omega), Int.toNat_natCast]
    rw [hi]
    unfold numR
    split
    · rename_i r hr; exact absurd hr (dec_no45 u r)
    · rw [natR_of (k := 3) (by omega)]; rfl
  · obtain ⟨u, rfl⟩ : ∃ u : Nat, v = -(u : Int) := ⟨v.natAbs, by omega⟩
    have hi : Lib.itoa (-(u : Int)) = 45 :: Lib.decDigits u := by
      unfold Lib.itoa
      rw [if_pos (by omega), show (-(u : Int)).natAbs = u by omega]
    rw [hi]
    unfold numR
    simp only
    rw [natR_of (k := 3) (by omega)]
    simp only
    rw [if_pos (by omega)]
/-- Both read the same numbers. -/
theorem num_same (s : ByteArray) : numR s.data.toList = numV s := by
  cases h : numV s with
  | some v =>
    obtain ⟨h1, h2, h3⟩ := numV_some h
    rw [h1]
    exact numR_of h2 h3
  | none =>
    cases h2 : numR s.data.toList with
    | none => rfl
    | some v =>
      obtain ⟨k1, k2, k3⟩ := numR_some h2
      have := (numV_iff s v).2 ⟨ba_ext k1, k2, k3⟩
      rw [h] at this
      cases this

/-! ### Deeds -/
/-- The deed of a line, as the reference finds it. -/
def deedR (line : ByteArray) : Option Cmd :=
  let c1 := cutR line.data.toList
  let c2 := cutR c1.2.1
  if isLineB line = false ∨ isNameB (bsB c2.1) = false then none
  else if bsB c1.1 = putW then (if c2.2.1 = [] then none else some (.put (bsB c2.1) (bsB c2.2.1)))
  else if bsB c1.1 = dropW then (if c2.2.2 then none else some (.drop (bsB c2.1)))
  else if bsB c1.1 = addW then (match numR c2.2.1 with
    | some n => some (.add (bsB c2.1) n)
    | none => none)
  else none
def deedP (line : ByteArray) : Option Cmd := match parseB line with
  | some c => if c.deed then some c else none
  | none => none
theorem about_no {w : ByteArray} {rest : List ByteArray} {c : Cmd} (h : aboutB w rest = some c) : c.deed = false := by
  unfold aboutB at h
  split at h
  · cases h
  · split at h
    · cases h
    · split at h
      · cases h; rfl
      · cases h
theorem cutR_empty : cutR [] = ([], [], false) := rfl
theorem numR_no32 {l : List UInt8} {v : Int} (h : numR l = some v) : (32 : UInt8) ∉ l := by rw [(numR_some h).1]; exact itoa_no32 v
theorem words_one {l : List UInt8} (h : (32 : UInt8) ∉ l) : wordsL l = [l] := by unfold wordsL; rw [List.count_eq_zero.2 h, splitN_zero]
theorem allS_one {rs : List ByteArray} {n : Int} (h : allS numV rs = some [n]) : ∃ r, rs = [r] ∧ numV r = some n := by
  have hl := allS_len _ _ _ h
  match rs, hl with
  | [r], _ =>
    refine ⟨r, rfl, ?_⟩
    unfold allS at h
    cases h4 : numV r with
    | none => simp [h4] at h
    | some v => simpa [h4, allS] using h
/-- Both find the same deeds. -/
theorem deed_same (line : ByteArray) : deedR line = deedP line := by
  cases hline : isLineB line with
  | false =>
    have h1 : deedR line = none := by unfold deedR; simp [hline]
    rw [h1]
    unfold deedP
    cases hp : parseB line with
    | none => rfl
    | some c =>
      cases hd : c.deed with
      | false => simp [hd]
      | true => rw [deed_line hp hd] at hline; cases hline
  | true =>
    unfold deedR deedP parseB
    simp only
    rw [splitA_words, wordsL_cut]
    cases hm : (cutR line.data.toList).2.2 with
    | false =>
      rw [(cutR_more hm).2, cutR_empty]
      simp only [Bool.false_eq_true, if_false, List.map_cons, List.map_nil]
      have : isNameB (bsB []) = false := by decide
      rw [this]
      simp
    | true =>
      simp only [if_true]
      generalize hw : (cutR line.data.toList).1 = w
      generalize hr : (cutR line.data.toList).2.1 = rest
      clear hw hr hm
      rw [List.map_cons, wordsL_cut rest]
      obtain ⟨rs, hrs⟩ : ∃ rs, rs = if (cutR rest).2.2 then (wordsL (cutR rest).2.1).map bsB else [] := ⟨_, rfl⟩
      have e1 : (if (cutR rest).2.2 = true then (cutR rest).1 :: wordsL (cutR rest).2.1 else [(cutR rest).1]).map bsB = bsB (cutR rest).1 :: rs := by
        rw [hrs]; cases (cutR rest).2.2 <;> simp
      have e2 : joinS rs = bsB (cutR rest).2.1 := by
        rw [hrs]
        cases hm2 : (cutR rest).2.2 with
        | true => exact joinS_words _
        | false => rw [(cutR_more hm2).2]; rfl
      have e3 : rs = [] ↔ (cutR rest).2.2 = false := by
        rw [hrs]
        cases hm2 : (cutR rest).2.2 with
        | true => simp [wordsL_ne]
        | false => simp
      have e4 : (cutR rest).2.2 = false → (cutR rest).2.1 = [] := fun h => (cutR_more h).2
      rw [e1]
      generalize hn : (cutR rest).1 = name at *
      generalize ha : (cutR rest).2.1 = args at *
      generalize hm2 : (cutR rest).2.2 = more at *
      clear hn ha hm2 e1
      show _ = match lineB1 (bsB w) (bsB name) rs line with | some c => if c.deed then some c else none | none => none
      unfold lineB1
      rw [e2, hline]
      simp only [Bool.true_eq_false, false_or, Bool.and_true]
      cases hnm : isNameB (bsB name) with
      | false =>
        simp only [if_true, Bool.false_and, Bool.and_false, Bool.false_eq_true, if_false]
        split
        · rename_i c hc
          split at hc
          · cases hc
          · split at hc
            · cases hc
            · split at hc
              · cases hc
              · split at hc
                · split at hc <;> cases hc
                · split at hc
                  · split at hc
                    · split at hc
                      · cases hc; rfl
                      · cases hc
                    · cases hc
                  · rw [about_no hc]; rfl
        · rfl
      | true =>
        simp only [Bool.true_eq_false, if_false, Bool.true_and, Bool.and_true]
        by_cases h1 : bsB w = putW
        · rw [if_pos h1, if_pos h1]
          rw [bsB_list]
          cases args <;> simp [Cmd.deed]
        · rw [if_neg h1, if_neg h1]
          by_cases h2 : bsB w = dropW
          · rw [if_pos h2, if_pos h2]
            by_cases h3 : rs = []
            · rw [decide_eq_true h3, e3.1 h3]; simp [Cmd.deed]
            · have : more = true := by cases more <;> simp_all
              rw [decide_eq_false h3, this]; simp
          · rw [if_neg h2, if_neg h2]
            by_cases h3 : bsB w = addW
            · have hns : bsB w ≠ stockW := by rw [h3]; decide
              rw [if_pos h3, if_neg hns, if_pos h3]
              cases hv : numR args with
              | some n =>
                have hrs1 : rs = [bsB args] := by
                  rw [hrs]
                  cases more with
                  | false =>
                    rw [e4 rfl] at hv
                    cases hv
                  | true => rw [if_pos rfl, words_one (numR_no32 hv)]; rfl
                have hn := num_same (bsB args)
                rw [bsB_list, hv] at hn
                rw [hrs1]
                simp [allS, ← hn, Cmd.deed]
              | none =>
                simp only
                split
                · rename_i c hc
                  split at hc
                  · rename_i n hn
                    obtain ⟨r, hr, hnr⟩ := allS_one hn
                    have : joinS rs = r := by rw [hr, joinS_one]
                    rw [e2] at this
                    rw [← this, ← num_same, bsB_list, hv] at hnr
                    cases hnr
                  · cases hc
                · rfl
            · rw [if_neg h3]
              split
              · rename_i c hc
                split at hc
                · split at hc
                  · cases hc; rfl
                  · cases hc
                · split at hc
                  · split at hc
                    · split at hc
                      · cases hc; rfl
                      · cases hc
                    · cases hc
                  · rw [about_no hc]; rfl
              · rfl
end Go.Proofs.YtdfkaijeppdhaaaGreatDoor
