/- Texts of this claim, laid together: Rt, Rf. -/
import Derived.Test.YtdfkaijeppdhaaaGreatDoorBk

/- Plain: the book of a text, and back (Post). -/
namespace Go.Proofs.YtdfkaijeppdhaaaGreatDoor
open Go

def atoiV (s : ByteArray) : Option Int := match Lib.atoiAll s.data.toList with
  | .ok v => some v
  | _ => none
/-- The lines of a text, each without its line feed. -/
def linesC : List UInt8 → List (List UInt8)
  | [] => []
  | b :: r => if b == 10 then [] :: linesC r else match linesC r with
    | [] => [[b]]
    | x :: xs => (b :: x) :: xs
/-- The entry of a line. -/
def lineE (l : ByteArray) : Option Ent := match splitS 32 3 l with
  | [a, b, c, d] => match atoiV a, atoiV b, atoiV c with
    | some p, some n, some k => some (p, n, k, d)
    | _, _, _ => none
  | _ => none
/-- May an entry follow? -/
def follows (b : Book) (e : Ent) : Bool := betw 0 (ePost e) 3 && betw 1 (eCnt e) 1000000 && isLineB (eLine e) &&
  decide (eNum e = ((b (ePost e).toNat).length : Int) + 1) && decide ((b (ePost e).toNat).length ≠ 60) && (decide ((b (ePost e).toNat).length = 0) || decide (lastC (b (ePost e).toNat) < eCnt e))
def addB (b : Book) (e : Ent) : Option Book := if follows b e then some (addAt b (ePost e).toNat e) else none
def addAll : Book → List Ent → Option Book
  | b, [] => some b
  | b, e :: l => match addB b e with
    | some c => addAll c l
    | none => none
def readL : Book → List (List UInt8) → Option Book
  | b, [] => some b
  | b, x :: l => match lineE (bsB x) with
    | none => none
    | some e => match addB b e with
      | some c => readL c l
      | none => none
/-- The book of a text; none: there is none. -/
def readB (s : ByteArray) : Option Book := match readL empB (linesC s.data.toList) with
  | some b => if textB b = s then some b else none
  | none => none

theorem follows_iff (b : Book) (e : Ent) : follows b e = true ↔ 0 ≤ ePost e ∧ ePost e ≤ 3 ∧ 1 ≤ eCnt e ∧ eCnt e ≤ 1000000 ∧ isLineB (eLine e) = true ∧ eNum e = ((b (ePost e).toNat).length : Int) + 1 ∧ (b (ePost e).toNat).length ≠ 60 ∧ ((b (ePost e).toNat).length = 0 ∨ lastC (b (ePost e).toNat) < eCnt e) := by
  unfold follows
  simp only [Bool.and_eq_true, Bool.or_eq_true, decide_eq_true_eq, betw_iff, and_assoc]
theorem addB_ok {b c : Book} {e : Ent} (hb : BookOk b) (h : addB b e = some c) : BookOk c := by
  unfold addB at h
  split at h
  · rename_i hf
    rw [follows_iff] at hf
    obtain ⟨h0, h1, h2, h3, h4, h5, h6, h7⟩ := hf
    simp only [Option.some.injEq] at h
    subst h
    have hn : (ePost e).toNat < 4 := by omega
    have hk := hb _ hn
    refine setB_ok hb (listOk_snoc hk (by have := hk.len; omega) (by omega) h5 h2 h3 (by rw [lineB_is]; exact h4) ?_)
    rcases h7 with h7 | h7
    · rw [List.length_eq_zero_iff.1 h7]
      show (0 : Int) < _
      omega
    · exact h7
  · cases h
theorem readL_ok : ∀ (l : List (List UInt8)) {b c : Book}, BookOk b → readL b l = some c → BookOk c
  | [], b, c, hb, h => by simp only [readL, Option.some.injEq] at h; subst h; exact hb
  | x :: l, b, c, hb, h => by
    unfold readL at h
    split at h
    · cases h
    · split at h
      · rename_i c1 h1; exact readL_ok l (addB_ok hb h1) h
      · cases h
theorem readB_some {s : ByteArray} {b : Book} (h : readB s = some b) : BookOk b ∧ textB b = s := by
  unfold readB at h
  split at h
  · rename_i b1 h1
    split at h
    · rename_i ht
      simp only [Option.some.injEq] at h
      subst h
      exact ⟨readL_ok _ empB_ok h1, ht⟩
    · cases h
  · cases h

/-! ### Reading what was written -/
theorem linesC_one : ∀ (x r : List UInt8), (10 : UInt8) ∉ x → linesC (x ++ 10 :: r) = x :: linesC r
  | [], r, _ => by simp [linesC]
  | b :: x, r, h => by
    have hb : (b == 10) = false := by
      rw [beq_eq_false_iff_ne]; rintro rfl; simp at h
    rw [List.cons_append, linesC, hb, linesC_one x r (fun hm => h (by simp [hm]))]
    simp
def lineW (e : Ent) : List UInt8 := Lib.itoa (ePost e) ++ 32 :: (Lib.itoa (eNum e) ++ 32 :: (Lib.itoa (eCnt e) ++ 32 :: (eLine e).data.toList))
theorem lineT_is (e : Ent) : lineT e = lineW e ++ [10] := by unfold lineT lineW; simp
theorem lineW_no {e : Ent} (h : lineB (eLine e) = true) : (10 : UInt8) ∉ lineW e := fun hm => by
  unfold lineW at hm
  have h1 := itoa_no10 (ePost e)
  have h2 := itoa_no10 (eNum e)
  have h3 := itoa_no10 (eCnt e)
  have h4 := line_no10 h
  simp only [List.mem_append, List.mem_cons] at hm
  simp_all
theorem linesC_text : ∀ (l : List Ent), (∀ e ∈ l, lineB (eLine e) = true) → linesC (textL l) = l.map lineW
  | [], _ => rfl
  | e :: l, h => by
    show linesC (lineT e ++ textL l) = _
    rw [lineT_is, List.append_assoc, List.singleton_append, linesC_one _ _ (lineW_no (h e (by simp))), linesC_text l (fun x hx => h x (by simp [hx])), List.map_cons]
theorem splitN_word (c : UInt8) (k : Nat) : ∀ (x r : List UInt8), c ∉ x → splitN c (k + 1) (x ++ c :: r) = x :: splitN c k r
  | [], r, _ => by simp [splitN]
  | b :: x, r, h => by
    have hb : (b == c) = false := by
      rw [beq_eq_false_iff_ne]; rintro rfl; simp at h
    rw [List.cons_append, splitN, hb, splitN_word c k x r (fun hm => h (by simp [hm]))]
    simp
theorem itoa_no32 (n : Int) : (32 : UInt8) ∉ Lib.itoa n := fun h => by have := itoa_byte n _ h; simp at this
theorem parse_dec : ∀ (l : List UInt8) (acc : Nat), (∀ x ∈ l, 48 ≤ x.toNat ∧ x.toNat ≤ 57) → acc * 10 ^ l.length + 10 ^ l.length ≤ 1000000000000000000 → Lib.parseUint10 acc l = .ok (l.foldl (fun a x => a * 10 + (x.toNat - 48)) acc)
  | [], _, _, _ => rfl
  | c :: r, acc, h, hs => by
    have hc := h c (by simp)
    have hp : 1 ≤ 10 ^ r.length := Nat.one_le_pow _ _ (by decide)
    have e1 : acc * 10 ^ (r.length + 1) = acc * 10 * 10 ^ r.length := by rw [Nat.pow_succ, Nat.mul_comm (10 ^ r.length) 10, ← Nat.mul_assoc]
    have e2 : 10 ^ (r.length + 1) = 10 * 10 ^ r.length := by rw [Nat.pow_succ, Nat.mul_comm]
    rw [List.length_cons, e1, e2] at hs
    have b1 : acc * 10 ≤ acc * 10 * 10 ^ r.length := Nat.le_mul_of_pos_right _ hp
    have e3 : (acc * 10 + (c.toNat - 48)) * 10 ^ r.length + 10 ^ r.length ≤ acc * 10 * 10 ^ r.length + 10 * 10 ^ r.length := by
      have : (c.toNat - 48 + 1) * 10 ^ r.length ≤ 10 * 10 ^ r.length := Nat.mul_le_mul_right _ (by omega)
      rw [Nat.add_mul, Nat.one_mul] at this
      rw [Nat.add_mul]; omega
    unfold Lib.parseUint10
    rw [if_pos hc, if_neg (by omega), if_neg (by omega), parse_dec r _ (fun x hx => h x (by simp [hx])) (by omega)]
    rfl
theorem fold_dec (u : Nat) : (Lib.decDigits u).foldl (fun a x => a * 10 + (x.toNat - 48)) 0 = u := by
  induction u using Nat.strongRecOn with
  | _ u ih =>
    rw [Lib.decDigits]
    split
    · simp only [List.foldl_cons, List.foldl_nil, UInt8.toNat_ofNat']
      omega
    · rw [List.foldl_append, ih (u / 10) (by omega)]
      simp only [List.foldl_cons, List.foldl_nil, UInt8.toNat_ofNat']
      omega
theorem atoi_nat (u : Nat) (h : u < 10000000000) : Lib.atoiAll (Lib.itoa (u : Int)) = .ok (u : Int) := by
  have hi : Lib.itoa (u : Int) = Lib.decDigits u := by unfold Lib.itoa; rw [if_neg (by omega), Int.toNat_natCast]
  have hl : (Lib.decDigits u).length ≤ 10 := by rw [Lib.decDigits_length]; exact nDigits_le 9 u (by omega)
  have hb := decDigits_byte u
  have hf := fold_dec u
  have hm : Lib.parseMag (Lib.decDigits u) = .ok u := by
    unfold Lib.parseMag
    rw [if_neg (decDigits_ne u), parse_dec _ 0 hb (by
      have : 10 ^ (Lib.decDigits u).length ≤ 10 ^ 10 := Nat.pow_le_pow_right (by decide) hl
      rw [Nat.zero_mul, Nat.zero_add]
      exact Nat.le_trans this (by decide)), hf]
  rw [hi]
  cases hd : Lib.decDigits u with
  | nil => exact absurd hd (decDigits_ne u)
  | cons c r =>
    have hc := hb c (by rw [hd]; simp)
    rw [hd] at hm
    have n1 : ¬ c.toNat = 43 := by omega
    have n2 : ¬ c.toNat = 45 := by omega
    unfold Lib.atoiAll
    simp only [n1, n2, or_self, if_false, not_false_eq_true, true_and, false_and]
    rw [hm]
    simp only
    rw [if_neg (by omega)]
theorem atoi_small {n : Int} (h0 : 0 ≤ n) (h1 : n ≤ 1000000000) : atoiV (itoaB n) = some n := by
  obtain ⟨u, rfl⟩ := Int.eq_ofNat_of_zero_le h0
  unfold atoiV
  rw [show (itoaB (u : Int)).data.toList = Lib.itoa (u : Int) from rfl, atoi_nat u (by omega)]
theorem lineE_of {e : Ent} (h1 : 0 ≤ ePost e ∧ ePost e ≤ 1000000) (h2 : 0 ≤ eNum e ∧ eNum e ≤ 1000000) (h3 : 0 ≤ eCnt e ∧ eCnt e ≤ 1000000) : lineE (bsB (lineW e)) = some e := by
  unfold lineE splitS
  rw [bsB_list]
  unfold lineW
  rw [splitN_word _ _ _ _ (itoa_no32 _), splitN_word _ _ _ _ (itoa_no32 _), splitN_word _ _ _ _ (itoa_no32 _), splitN_zero]
  simp only [List.map_cons, List.map_nil]
  have a1 : atoiV (bsB (Lib.itoa (ePost e))) = some (ePost e) := atoi_small h1.1 (by omega)
  have a2 : atoiV (bsB (Lib.itoa (eNum e))) = some (eNum e) := atoi_small h2.1 (by omega)
  have a3 : atoiV (bsB (Lib.itoa (eCnt e))) = some (eCnt e) := atoi_small h3.1 (by omega)
  rw [a1, a2, a3, bsB_of]
  rfl
theorem readL_map : ∀ (l : List Ent) (b : Book), (∀ e ∈ l, lineE (bsB (lineW e)) = some e) → readL b (l.map lineW) = addAll b l
  | [], _, _ => rfl
  | e :: l, b, h => by
    rw [List.map_cons, readL, h e (by simp)]
    simp only
    unfold addAll
    cases addB b e with
    | none => rfl
    | some c => exact readL_map l c (fun x hx => h x (by simp [hx]))

/-- The entries of one post. -/
def ofP (l : List Ent) (i : Nat) : List Ent := l.filter fun e => decide (ePost e = (i : Int))
theorem ofP_all {b : Book} (hb : BookOk b) {i : Nat} (hi : i < 4) : ofP (allB b) i = b i := by
  have hm : ∀ j, j < 4 → ∀ e ∈ b j, ePost e = (j : Int) := fun j hj e he => ((hb j hj).mem he).1
  have hasc : ∀ j, j < 4 → Asc (b j) := fun j hj => (hb j hj).asc.imp fun h => .inl h
  refine asc_unique (List.Pairwise.sublist List.filter_sublist (sinceB_asc hb _)) (hasc i hi) ?_
  have hp := (allB_perm b).filter (fun e => decide (ePost e = (i : Int)))
  refine hp.trans ?_
  have hs : ∀ j, j < 4 → (b j).filter (fun e => decide (ePost e = (i : Int))) = if j = i then b j else [] := fun j hj => by
    split
    · rename_i h; subst h
      exact List.filter_eq_self.2 fun e he => by rw [hm j hj e he]; simp
    · rename_i h
      exact List.filter_eq_nil_iff.2 fun e he => by rw [hm j hj e he]; simp; omega
  rw [List.filter_append, List.filter_append, List.filter_append, hs 0 (by omega), hs 1 (by omega), hs 2 (by omega), hs 3 (by omega)]
  rcases (show i = 0 ∨ i = 1 ∨ i = 2 ∨ i = 3 by omega) with rfl | rfl | rfl | rfl <;> simp
theorem addAll_ok {b : Book} (hb : BookOk b) : ∀ (l2 l1 : List Ent) (c : Book), l1 ++ l2 = allB b → (∀ i, i < 4 → c i = ofP l1 i) → ∃ d, addAll c l2 = some d ∧ BookEq d b
  | [], l1, c, h, hc => ⟨c, rfl, fun i hi => by
      rw [List.append_nil] at h
      rw [hc i hi, h, ofP_all hb hi]⟩
  | e :: l2, l1, c, h, hc => by
    obtain ⟨i, hi, he⟩ := allB_mem (b := b) (e := e) (by rw [← h]; simp)
    obtain ⟨q1, q2, q3, q4⟩ := (hb i hi).mem he
    have ht : (ePost e).toNat = i := by omega
    have hpre : ofP l1 i ++ [e] <+: b i := by
      rw [← ofP_all hb hi, ← h]
      unfold ofP
      rw [List.filter_append, List.filter_cons_of_pos (by simpa using q1)]
      exact ⟨_, by rw [List.append_assoc, List.singleton_append]⟩
    have hk : ListOk i (ofP l1 i ++ [e]) := (hb i hi).front hpre
    have hown := hk.own (ofP l1 i).length (by simp)
    simp only [List.getElem_append_right (Nat.le_refl _), Nat.sub_self, List.getElem_cons_zero] at hown
    have hlen := hk.len
    rw [List.length_append, List.length_singleton] at hlen
    have hf : follows c e = true := by
      rw [follows_iff, ht, hc i hi]
      refine ⟨by omega, by omega, q2, q3, by rw [← lineB_is]; exact q4, by have := hown.2.1; omega, by omega, ?_⟩
      by_cases h0 : (ofP l1 i).length = 0
      · exact .inl h0
      · refine .inr ?_
        cases hl : (ofP l1 i).getLast? with
        | none => exact absurd (by rw [List.getLast?_eq_none_iff.1 hl]; rfl) h0
        | some x =>
          unfold lastC
          rw [hl]
          exact (List.pairwise_append.1 hk.asc).2.2 x (List.mem_of_getLast? hl) e (by simp)
    unfold addAll addB
    rw [if_pos hf, ht]
    refine addAll_ok hb l2 (l1 ++ [e]) _ (by rw [List.append_assoc, List.singleton_append]; exact h) fun j hj => ?_
    unfold addAt ofP
    rw [List.filter_append]
    by_cases hji : j = i
    · subst hji
      rw [setB_same, hc j hj, List.filter_cons_of_pos (by simpa using q1)]; rfl
    · rw [setB_other _ _ hji, hc j hj, List.filter_cons_of_neg (by rw [q1]; simp; omega)]
      simp [ofP]
theorem book_bounds {b : Book} (hb : BookOk b) {e : Ent} (h : e ∈ allB b) : (0 ≤ ePost e ∧ ePost e ≤ 3) ∧ (1 ≤ eNum e ∧ eNum e ≤ 60) ∧ (1 ≤ eCnt e ∧ eCnt e ≤ 1000000) ∧ lineB (eLine e) = true := by
  obtain ⟨i, hi, hm⟩ := allB_mem h
  obtain ⟨j, hj, rfl⟩ := List.getElem_of_mem hm
  obtain ⟨h1, h2, h3, h4, h5⟩ := (hb i hi).own j hj
  have := (hb i hi).len
  exact ⟨by omega, by omega, ⟨h3, h4⟩, h5⟩
/-- The book of the text of a book. -/
theorem read_text {b : Book} (hb : BookOk b) : ∃ d, readB (textB b) = some d ∧ BookEq d b := by
  obtain ⟨d, h1, h2⟩ := addAll_ok hb (allB b) [] empB rfl (fun i hi => rfl)
  refine ⟨d, ?_, h2⟩
  unfold readB
  rw [show (textB b).data.toList = textL (allB b) from rfl, linesC_text _ (fun e he => (book_bounds hb he).2.2.2), readL_map _ _ (fun e he => ?_), h1]
  · simp only
    rw [h2.text, if_pos rfl]
  · obtain ⟨k1, k2, k3, _⟩ := book_bounds hb he
    exact lineE_of (by omega) (by omega) (by omega)
/-- Books with one text are one. -/
theorem text_inj {b c : Book} (hb : BookOk b) (hc : BookOk c) (h : textB b = textB c) : BookEq b c := by
  obtain ⟨d, h1, h2⟩ := read_text hb
  obtain ⟨d', h1', h2'⟩ := read_text hc
  rw [h, h1'] at h1
  cases h1
  exact h2.symm.trans h2'
end Go.Proofs.YtdfkaijeppdhaaaGreatDoor

/- Plain: the reference's words, numbers and deeds, which are those of the program (Post). -/
namespace Go.Proofs.YtdfkaijeppdhaaaGreatDoor
open Go

/-! ### cut -/
/-- The first word, what stands behind its space, and whether there is one. -/
def cutR : List UInt8 → List UInt8 × List UInt8 × Bool
  | [] => ([], [], false)
  | b :: r => if b == 32 then ([], r, true) else (b :: (cutR r).1, (cutR r).2.1, (cutR r).2.2)
theorem cutR_split : ∀ (l : List UInt8) (k : Nat), splitN 32 (k + 1) l = if (cutR l).2.2 then (cutR l).1 :: splitN 32 k (cutR l).2.1 else [(cutR l).1]
  | [], k => rfl
  | b :: r, k => by
    by_cases hb : b = 32
    · subst hb
      simp [splitN, cutR]
    · have hbc : (b == 32) = false := by simpa using hb
      have ih := cutR_split r k
      simp only [splitN, cutR, hbc, Bool.false_eq_true, if_false]
      rw [ih]
      cases h : (cutR r).2.2 <;> simp
theorem cutR_count : ∀ (l : List UInt8), l.count 32 = if (cutR l).2.2 then (cutR l).2.1.count 32 + 1 else 0
  | [] => rfl
  | b :: r => by
    by_cases hb : b = 32
    · subst hb
      simp [cutR]
    · have hbc : (b == 32) = false := by simpa using hb
      rw [List.count_cons_of_ne hb, cutR_count r]
      simp [cutR, hbc]
theorem cutR_more {l : List UInt8} (h : (cutR l).2.2 = false) : (cutR l).1 = l ∧ (cutR l).2.1 = [] := by
  induction l with
  | nil => exact ⟨rfl, rfl⟩
  | cons b r ih =>
    by_cases hb : b = 32
    · subst hb; simp [cutR] at h
    · have hbc : (b == 32) = false := by simpa using hb
      simp only [cutR, hbc, Bool.false_eq_true, if_false] at h ⊢
      have := ih h
      exact ⟨by rw [this.1], this.2⟩
theorem cutR_app {l : List UInt8} (h : (cutR l).2.2 = true) : l = (cutR l).1 ++ 32 :: (cutR l).2.1 := by
  induction l with
  | nil => simp [cutR] at h
  | cons b r ih =>
    by_cases hb : b = 32
    · subst hb; simp [cutR]
    · have hbc : (b == 32) = false := by simpa using hb
      simp only [cutR, hbc, Bool.false_eq_true, if_false] at h ⊢
      rw [List.cons_append, ← ih h]
/-- The words of a list of bytes. -/
def wordsL (l : List UInt8) : List (List UInt8) := splitN 32 (l.count 32) l
theorem wordsL_cut (l : List UInt8) : wordsL l = if (cutR l).2.2 then (cutR l).1 :: wordsL (cutR l).2.1 else [(cutR l).1] := by
  unfold wordsL
  rw [cutR_count]
  cases h : (cutR l).2.2 with
  | true =>
    have := cutR_split l ((cutR l).2.1.count 32)
    rw [h] at this
    simpa using this
  | false =>
    rw [(cutR_more h).1]
    simp [splitN_zero]
theorem splitA_words (s : ByteArray) : splitA 32 s = (wordsL s.data.toList).map bsB := rfl
theorem wordsL_ne (l : List UInt8) : wordsL l ≠ [] := splitN_ne _ _ _
theorem wordsL_join (l : List UInt8) : Lib.join (wordsL l) [32] = l := splitN_join _ _ _
theorem joinS_words (l : List UInt8) : joinS ((wordsL l).map bsB) = bsB l := by
  unfold joinS
  rw [List.map_map, show ((fun x : ByteArray => x.data.toList) ∘ bsB) = id from rfl, List.map_id, wordsL_join]

/-! ### Numbers -/
def isDig (x : UInt8) : Bool := decide (48 ≤ x.toNat) && decide (x.toNat ≤ 57)
def valD (l : List UInt8) : Nat := l.foldl (fun a x => a * 10 + (x.toNat - 48)) 0
/-- A number without sign and leading zeros, of at most k digits. -/
def natR (l : List UInt8) (k : Nat) : Option Nat :=
  if l.length < 1 ∨ k < l.length ∨ (1 < l.length ∧ l.headD 0 = 48) then none else if l.all isDig then some (valD l) else none
def numR (l : List UInt8) : Option Int := match l with
  | 45 :: r => match natR r 4 with
    | some n => if 0 < n then some (-(n : Int)) else none
    | none => none
  | _ => (natR l 4).map fun n : Nat => (n : Int)
theorem valD_snoc (l : List UInt8) (x : UInt8) : valD (l ++ [x]) = valD l * 10 + (x.toNat - 48) := by unfold valD; rw [List.foldl_append]; rfl
theorem foldD_lt : ∀ (l : List UInt8) (a : Nat), l.all isDig = true → l.foldl (fun a x => a * 10 + (x.toNat - 48)) a < (a + 1) * 10 ^ l.length
  | [], a, _ => by simp
  | x :: l, a, h => by
    simp only [List.all_cons, Bool.and_eq_true] at h
    have hx : 48 ≤ x.toNat ∧ x.toNat ≤ 57 := by have := h.1; unfold isDig at this; simpa using this
    have ih := foldD_lt l (a * 10 + (x.toNat - 48)) h.2
    rw [List.foldl_cons, List.length_cons, Nat.pow_succ]
    have hp : (a * 10 + (x.toNat - 48) + 1) * 10 ^ l.length ≤ ((a + 1) * 10) * 10 ^ l.length := Nat.mul_le_mul_right _ (by omega)
    have e : (a + 1) * (10 ^ l.length * 10) = ((a + 1) * 10) * 10 ^ l.length := by rw [Nat.mul_comm (10 ^ l.length) 10, ← Nat.mul_assoc]
    omega
theorem valD_lt {l : List UInt8} (h : l.all isDig = true) : valD l < 10 ^ l.length := by
  have := foldD_lt l 0 h
  rw [Nat.zero_add, Nat.one_mul] at this
  exact this
theorem foldD_ge : ∀ (l : List UInt8) (a : Nat), a ≤ l.foldl (fun a x => a * 10 + (x.toNat - 48)) a
  | [], a => Nat.le_refl _
  | x :: l, a => by rw [List.foldl_cons]; exact Nat.le_trans (by omega) (foldD_ge l _)
/-- The numeral of what is read without leading zeros. -/
theorem decDigits_val : ∀ (n : Nat) (l : List UInt8), l.length = n → l.all isDig = true → l ≠ [] → (l.length = 1 ∨ l.headD 0 ≠ 48) → Lib.decDigits (valD l) = l
  | 0, l, hn, _, h0, _ => absurd (List.length_eq_zero_iff.1 hn) h0
  | n + 1, l, hn, h, h0, hz => by
    obtain ⟨r, x, rfl⟩ : ∃ r x, l = r ++ [x] := ⟨l.dropLast, l.getLast h0, (List.dropLast_concat_getLast h0).symm⟩
    rw [List.all_append, Bool.and_eq_true] at h
    have hx : 48 ≤ x.toNat ∧ x.toNat ≤ 57 := by have := h.2; unfold isDig at this; simpa using this
    have ex : UInt8.ofNat (48 + (x.toNat - 48)) = x := by
      rw [show 48 + (x.toNat - 48) = x.toNat by omega]; simp
    rw [valD_snoc]
    by_cases hr : r = []
    · subst hr
      rw [show valD [] = 0 from rfl, Lib.decDigits_one (by omega), Nat.zero_mul, Nat.zero_add, ex]
      rfl
    · have hd : (r ++ [x]).headD 0 = r.headD 0 := by cases r with | nil => exact absurd rfl hr | cons a t => rfl
      have hne : r.headD 0 ≠ 48 := by
        rcases hz with hz | hz
        · rw [List.length_append, List.length_singleton] at hz
          exact absurd (List.length_eq_zero_iff.1 (by omega)) hr
        · rw [← hd]; exact hz
      have hrv : 1 ≤ valD r := by
        cases r with
        | nil => exact absurd rfl hr
        | cons a t =>
          have ha : isDig a = true := by have := h.1; simp only [List.all_cons, Bool.and_eq_true] at this; exact this.1
          have ha2 : 48 ≤ a.toNat ∧ a.toNat ≤ 57 := by unfold isDig at ha; simpa using ha
          have hne2 : a.toNat ≠ 48 := fun e => hne (by simp only [List.headD_cons]; exact UInt8.toNat_inj.1 e)
          have := foldD_ge t (0 * 10 + (a.toNat - 48))
          unfold valD
          rw [List.foldl_cons]
          omega
      rw [Lib.decDigits, dif_neg (by omega), show (valD r * 10 + (x.toNat - 48)) / 10 = valD r by omega, show (valD r * 10 + (x.toNat - 48)) % 10 = x.toNat - 48 by omega, ex,
        decDigits_val n r (by simpa using hn) h.1 hr (.inr hne)]
theorem natR_some {l : List UInt8} {k n : Nat} (h : natR l k = some n) : l = Lib.decDigits n ∧ n < 10 ^ k ∧ l.length ≤ k := by
  unfold natR at h
  split at h
  · cases h
  · rename_i hc
    split at h
    · rename_i ha
      simp only [Option.some.injEq] at h
      subst h
      have hl : l ≠ [] := by rintro rfl; simp at hc
      refine ⟨(decDigits_val _ l rfl ha hl ?_).symm, Nat.lt_of_lt_of_le (valD_lt ha) (Nat.pow_le_pow_right (by decide) (by omega)), by omega⟩
      by_cases h1 : l.length = 1
      · exact .inl h1
      · exact .inr fun h2 => hc (.inr (.inr ⟨by have := List.length_pos_iff.2 hl; omega, h2⟩))
    · cases h
theorem decDigits_head {u : Nat} (h : 10 ≤ u) : (Lib.decDigits u).headD 0 ≠ 48 := by
  induction u using Nat.strongRecOn with
  | _ u ih =>
    rw [Lib.decDigits, dif_neg (by omega)]
    have hd : (Lib.decDigits (u / 10) ++ [UInt8.ofNat (48 + u % 10)]).headD 0 = (Lib.decDigits (u / 10)).headD 0 := by
      cases hq : Lib.decDigits (u / 10) with
      | nil => exact absurd hq (decDigits_ne _)
      | cons a t => rfl
    rw [hd]
    by_cases h2 : 10 ≤ u / 10
    · exact ih (u / 10) (by omega) h2
    · rw [Lib.decDigits_one (by omega)]
      intro e
      have : (UInt8.ofNat (48 + u / 10)).toNat = (48 : UInt8).toNat := by rw [show UInt8.ofNat (48 + u / 10) = 48 from e]
      rw [UInt8.toNat_ofNat'] at this
      have h48 : (48 : UInt8).toNat = 48 := rfl
      omega
theorem natR_of {n k : Nat} (h : n < 10 ^ (k + 1)) : natR (Lib.decDigits n) (k + 1) = some n := by
  unfold natR
  have hl : (Lib.decDigits n).length ≤ k + 1 := by rw [Lib.decDigits_length]; exact nDigits_le k n h
  have hp : 1 ≤ (Lib.decDigits n).length := List.length_pos_iff.2 (decDigits_ne n)
  have hc : ¬ ((Lib.decDigits n).length < 1 ∨ k + 1 < (Lib.decDigits n).length ∨ (1 < (Lib.decDigits n).length ∧ (Lib.decDigits n).headD 0 = 48)) := by
    rintro (h1 | h1 | ⟨h1, h2⟩)
    · omega
    · omega
    · by_cases h10 : n < 10
      · rw [Lib.decDigits_one h10] at h1; simp at h1
      · exact decDigits_head (by omega) h2
  rw [if_neg hc, if_pos]
  · exact congrArg some (fold_dec n)
  · rw [List.all_eq_true]
    intro x hx
    have := decDigits_byte n x hx
    unfold isDig
    simp [this]
theorem itoa_atoi {n : Int} (h0 : -9999 ≤ n) (h1 : n ≤ 9999) : Lib.atoiAll (Lib.itoa n) = .ok n := by
  by_cases hn : 0 ≤ n
  · obtain ⟨u, rfl⟩ := Int.eq_ofNat_of_zero_le hn
    exact atoi_nat u (by omega)
  · obtain ⟨u, rfl⟩ : ∃ u : Nat, n = -(u : Int) := ⟨n.natAbs, by omega⟩
    have hi : Lib.itoa (-(u : Int)) = 45 :: Lib.decDigits u := by
      unfold Lib.itoa
      rw [if_pos (by omega), show (-(u : Int)).natAbs = u by omega]
    have hl : (Lib.decDigits u).length ≤ 4 := by rw [Lib.decDigits_length]; exact nDigits_le 3 u (by omega)
    have hm : Lib.parseMag (Lib.decDigits u) = .ok u := by
      unfold Lib.parseMag
      rw [if_neg (decDigits_ne u), parse_dec _ 0 (decDigits_byte u) (by
        have : 10 ^ (Lib.decDigits u).length ≤ 10 ^ 4 := Nat.pow_le_pow_right (by decide) hl
        rw [Nat.zero_mul, Nat.zero_add]
        exact Nat.le_trans this (by decide)), fold_dec u]
    rw [hi]
    have n3 : (45 : UInt8).toNat = 45 := rfl
    unfold Lib.atoiAll
    simp only [n3, or_true, if_true, hm, not_true, false_and, if_false, true_and]
    rw [if_neg (by omega)]
/-- What a number is. -/
theorem numV_iff (s : ByteArray) (v : Int) : numV s = some v ↔ s = itoaB v ∧ -9999 ≤ v ∧ v ≤ 9999 := by
  refine ⟨numV_some, fun ⟨h1, h2, h3⟩ => ?_⟩
  unfold numV
  rw [show s.data.toList = Lib.itoa v by rw [h1]; rfl, itoa_atoi h2 h3]
  simp only
  rw [if_pos (by rw [Bool.and_eq_true, decide_eq_true_eq, betw_iff]; exact ⟨h1.symm, h2, h3⟩)]
theorem dec_no45 (u : Nat) : ∀ r, Lib.decDigits u ≠ 45 :: r := fun r h => by
  have := decDigits_byte u 45 (by rw [h]; simp)
  simp at this
theorem numR_some {l : List UInt8} {v : Int} (h : numR l = some v) : l = Lib.itoa v ∧ -9999 ≤ v ∧ v ≤ 9999 := by
  unfold numR at h
  split at h
  · rename_i r
    split at h
    · rename_i n hn
      split at h
      · simp only [Option.some.injEq] at h
        subst h
        obtain ⟨h1, h2, _⟩ := natR_some hn
        refine ⟨?_, by omega, by omega⟩
        unfold Lib.itoa
        rw [if_pos (by omega), show (-(n : Int)).natAbs = n by omega, ← h1]
      · cases h
    · cases h
  · cases hn : natR l 4 with
    | none => rw [hn] at h; cases h
    | some n =>
      rw [hn] at h
      simp only [Option.map_some, Option.some.injEq] at h
      subst h
      obtain ⟨h1, h2, _⟩ := natR_some hn
      refine ⟨?_, by omega, by omega⟩
      unfold Lib.itoa
      rw [if_neg (by omega), Int.toNat_natCast, ← h1]
theorem numR_of {v : Int} (h0 : -9999 ≤ v) (h1 : v ≤ 9999) : numR (Lib.itoa v) = some v := by
  by_cases hn : 0 ≤ v
  · obtain ⟨u, rfl⟩ := Int.eq_ofNat_of_zero_le hn
    have hi : Lib.itoa (u : Int) = Lib.decDigits u := by unfold Lib.itoa; rw [if_neg (by omega), Int.toNat_natCast]
    rw [hi]
    unfold numR
    split
    · rename_i r hr; exact absurd hr (dec_no45 u r)
    · rw [natR_of (k := 3) (by omega)]; rfl
  · obtain ⟨u, rfl⟩ : ∃ u : Nat, v = -(u : Int) := ⟨v.natAbs, by omega⟩
    have hi : Lib.itoa (-(u : Int)) = 45 :: Lib.decDigits u := by
      unfold Lib.itoa
      rw [if_pos (by omega), show (-(u : Int)).natAbs = u by omega]
    rw [hi]
    unfold numR
    simp only
    rw [natR_of (k := 3) (by omega)]
    simp only
    rw [if_pos (by omega)]
/-- Both read the same numbers. -/
theorem num_same (s : ByteArray) : numR s.data.toList = numV s := by
  cases h : numV s with
  | some v =>
    obtain ⟨h1, h2, h3⟩ := numV_some h
    rw [h1]
    exact numR_of h2 h3
  | none =>
    cases h2 : numR s.data.toList with
    | none => rfl
    | some v =>
      obtain ⟨k1, k2, k3⟩ := numR_some h2
      have := (numV_iff s v).2 ⟨ba_ext k1, k2, k3⟩
      rw [h] at this
      cases this

/-! ### Deeds -/
/-- The deed of a line, as the reference finds it. -/
def deedR (line : ByteArray) : Option Cmd :=
  let c1 := cutR line.data.toList
  let c2 := cutR c1.2.1
  if isLineB line = false ∨ isNameB (bsB c2.1) = false then none
  else if bsB c1.1 = putW then (if c2.2.1 = [] then none else some (.put (bsB c2.1) (bsB c2.2.1)))
  else if bsB c1.1 = dropW then (if c2.2.2 then none else some (.drop (bsB c2.1)))
  else if bsB c1.1 = addW then (match numR c2.2.1 with
    | some n => some (.add (bsB c2.1) n)
    | none => none)
  else none
def deedP (line : ByteArray) : Option Cmd := match parseB line with
  | some c => if c.deed then some c else none
  | none => none
theorem about_no {w : ByteArray} {rest : List ByteArray} {c : Cmd} (h : aboutB w rest = some c) : c.deed = false := by
  unfold aboutB at h
  split at h
  · cases h
  · split at h
    · cases h
    · split at h
      · cases h; rfl
      · cases h
theorem cutR_empty : cutR [] = ([], [], false) := rfl
theorem numR_no32 {l : List UInt8} {v : Int} (h : numR l = some v) : (32 : UInt8) ∉ l := by rw [(numR_some h).1]; exact itoa_no32 v
theorem words_one {l : List UInt8} (h : (32 : UInt8) ∉ l) : wordsL l = [l] := by unfold wordsL; rw [List.count_eq_zero.2 h, splitN_zero]
theorem allS_one {rs : List ByteArray} {n : Int} (h : allS numV rs = some [n]) : ∃ r, rs = [r] ∧ numV r = some n := by
  have hl := allS_len _ _ _ h
  match rs, hl with
  | [r], _ =>
    refine ⟨r, rfl, ?_⟩
    unfold allS at h
    cases h4 : numV r with
    | none => simp [h4] at h
    | some v => simpa [h4, allS] using h
/-- Both find the same deeds. -/
theorem deed_same (line : ByteArray) : deedR line = deedP line := by
  cases hline : isLineB line with
  | false =>
    have h1 : deedR line = none := by unfold deedR; simp [hline]
    rw [h1]
    unfold deedP
    cases hp : parseB line with
    | none => rfl
    | some c =>
      cases hd : c.deed with
      | false => simp [hd]
      | true => rw [deed_line hp hd] at hline; cases hline
  | true =>
    unfold deedR deedP parseB
    simp only
    rw [splitA_words, wordsL_cut]
    cases hm : (cutR line.data.toList).2.2 with
    | false =>
      rw [(cutR_more hm).2, cutR_empty]
      simp only [Bool.false_eq_true, if_false, List.map_cons, List.map_nil]
      have : isNameB (bsB []) = false := by decide
      rw [this]
      simp
    | true =>
      simp only [if_true]
      generalize hw : (cutR line.data.toList).1 = w
      generalize hr : (cutR line.data.toList).2.1 = rest
      clear hw hr hm
      rw [List.map_cons, wordsL_cut rest]
      obtain ⟨rs, hrs⟩ : ∃ rs, rs = if (cutR rest).2.2 then (wordsL (cutR rest).2.1).map bsB else [] := ⟨_, rfl⟩
      have e1 : (if (cutR rest).2.2 = true then (cutR rest).1 :: wordsL (cutR rest).2.1 else [(cutR rest).1]).map bsB = bsB (cutR rest).1 :: rs := by
        rw [hrs]; cases (cutR rest).2.2 <;> simp
      have e2 : joinS rs = bsB (cutR rest).2.1 := by
        rw [hrs]
        cases hm2 : (cutR rest).2.2 with
        | true => exact joinS_words _
        | false => rw [(cutR_more hm2).2]; rfl
      have e3 : rs = [] ↔ (cutR rest).2.2 = false := by
        rw [hrs]
        cases hm2 : (cutR rest).2.2 with
        | true => simp [wordsL_ne]
        | false => simp
      have e4 : (cutR rest).2.2 = false → (cutR rest).2.1 = [] := fun h => (cutR_more h).2
      rw [e1]
      generalize hn : (cutR rest).1 = name at *
      generalize ha : (cutR rest).2.1 = args at *
      generalize hm2 : (cutR rest).2.2 = more at *
      clear hn ha hm2 e1
      show _ = match lineB1 (bsB w) (bsB name) rs line with | some c => if c.deed then some c else none | none => none
      unfold lineB1
      rw [e2, hline]
      simp only [Bool.true_eq_false, false_or, Bool.and_true]
      cases hnm : isNameB (bsB name) with
      | false =>
        simp only [if_true, Bool.false_and, Bool.and_false, Bool.false_eq_true, if_false]
        split
        · rename_i c hc
          split at hc
          · cases hc
          · split at hc
            · cases hc
            · split at hc
              · cases hc
              · split at hc
                · split at hc <;> cases hc
                · split at hc
                  · split at hc
                    · split at hc
                      · cases hc; rfl
                      · cases hc
                    · cases hc
                  · rw [about_no hc]; rfl
        · rfl
      | true =>
        simp only [Bool.true_eq_false, if_false, Bool.true_and, Bool.and_true]
        by_cases h1 : bsB w = putW
        · rw [if_pos h1, if_pos h1]
          rw [bsB_list]
          cases args <;> simp [Cmd.deed]
        · rw [if_neg h1, if_neg h1]
          by_cases h2 : bsB w = dropW
          · rw [if_pos h2, if_pos h2]
            by_cases h3 : rs = []
            · rw [decide_eq_true h3, e3.1 h3]; simp [Cmd.deed]
            · have : more = true := by cases more <;> simp_all
              rw [decide_eq_false h3, this]; simp
          · rw [if_neg h2, if_neg h2]
            by_cases h3 : bsB w = addW
            · have hns : bsB w ≠ stockW := by rw [h3]; decide
              rw [if_pos h3, if_neg hns, if_pos h3]
              cases hv : numR args with
              | some n =>
                have hrs1 : rs = [bsB args] := by
                  rw [hrs]
                  cases more with
                  | false =>
                    rw [e4 rfl] at hv
                    cases hv
                  | true => rw [if_pos rfl, words_one (numR_no32 hv)]; rfl
                have hn := num_same (bsB args)
                rw [bsB_list, hv] at hn
                rw [hrs1]
                simp [allS, ← hn, Cmd.deed]
              | none =>
                simp only
                split
                · rename_i c hc
                  split at hc
                  · rename_i n hn
                    obtain ⟨r, hr, hnr⟩ := allS_one hn
                    have : joinS rs = r := by rw [hr, joinS_one]
                    rw [e2] at this
                    rw [← this, ← num_same, bsB_list, hv] at hnr
                    cases hnr
                  · cases hc
                · rfl
            · rw [if_neg h3]
              split
              · rename_i c hc
                split at hc
                · split at hc
                  · cases hc; rfl
                  · cases hc
                · split at hc
                  · split at hc
                    · split at hc
                      · cases hc; rfl
                      · cases hc
                    · cases hc
                  · rw [about_no hc]; rfl
              · rfl
end Go.Proofs.YtdfkaijeppdhaaaGreatDoor
