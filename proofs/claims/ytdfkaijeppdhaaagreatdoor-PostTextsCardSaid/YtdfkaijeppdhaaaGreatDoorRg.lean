/- Plain: the book of a text as the reference reads it (Post). -/
import Derived.Test.YtdfkaijeppdhaaaGreatDoorRf
namespace Go.Proofs.YtdfkaijeppdhaaaGreatDoor
open Go

/-- The lines that end in a line feed, and what is left. -/
def stepT (s : List (List UInt8) × List UInt8) (b : UInt8) : List (List UInt8) × List UInt8 := if b == 10 then (s.1 ++ [s.2], []) else (s.1, s.2 ++ [b])
def linesT (l : List UInt8) : List (List UInt8) × List UInt8 := l.foldl stepT ([], [])
theorem linesT_snoc (l : List UInt8) (b : UInt8) : linesT (l ++ [b]) = stepT (linesT l) b := by unfold linesT; rw [List.foldl_append]; rfl
theorem foldT_no : ∀ (x : List UInt8) (s : List (List UInt8) × List UInt8), (10 : UInt8) ∉ x → x.foldl stepT s = (s.1, s.2 ++ x)
  | [], s, _ => by simp
  | b :: x, s, h => by
    have hb : (b == 10) = false := by
      rw [beq_eq_false_iff_ne]; rintro rfl; simp at h
    rw [List.foldl_cons, show stepT s b = (s.1, s.2 ++ [b]) by simp [stepT, hb], foldT_no x _ (fun hm => h (by simp [hm]))]
    simp
theorem foldT_text : ∀ (l : List Ent) (a : List (List UInt8)), (∀ e ∈ l, lineB (eLine e) = true) → (textL l).foldl stepT (a, []) = (a ++ l.map lineW, [])
  | [], a, _ => by simp [textL]
  | e :: l, a, h => by
    show (lineT e ++ textL l).foldl stepT (a, []) = _
    rw [lineT_is, List.append_assoc, List.foldl_append, foldT_no _ _ (lineW_no (h e (by simp))), List.foldl_append, List.foldl_cons, List.foldl_nil,
      show stepT (a, [] ++ lineW e) 10 = (a ++ [lineW e], []) by simp [stepT], foldT_text l _ (fun x hx => h x (by simp [hx]))]
    simp
theorem linesT_text {l : List Ent} (h : ∀ e ∈ l, lineB (eLine e) = true) : linesT (textL l) = (l.map lineW, []) := by
  have := foldT_text l [] h
  simpa [linesT] using this

/-- The entry of a line, if it may follow. -/
def lineR (b : Book) (l : List UInt8) : Option Ent :=
  let c1 := cutR l
  let c2 := cutR c1.2.1
  let c3 := cutR c2.2.1
  match natR c1.1 1, natR c2.1 2, natR c3.1 7 with
  | some p, some n, some k =>
    if c3.2.2 = true ∧ p ≤ 3 ∧ n = (b p).length + 1 ∧ n ≤ 60 ∧ 1 ≤ k ∧ k ≤ 1000000 ∧ isLineB (bsB c3.2.1) = true ∧ (1 < n → lastC (b p) < k) then some ((p : Int), (n : Int), (k : Int), bsB c3.2.1) else none
  | _, _, _ => none
def readRL : Book → List (List UInt8) → Option Book
  | b, [] => some b
  | b, x :: l => match lineR b x with
    | none => none
    | some e => readRL (addAt b (ePost e).toNat e) l
def readR (s : ByteArray) : Option Book := match readRL empB (linesT s.data.toList).1 with
  | some b => if textB b = s then some b else none
  | none => none
theorem readRL_snoc : ∀ (l : List (List UInt8)) (x : List UInt8) (b : Book), readRL b (l ++ [x]) = match readRL b l with
    | none => none
    | some c => match lineR c x with
      | none => none
      | some e => some (addAt c (ePost e).toNat e)
  | [], x, b => by
    simp only [List.nil_append, readRL]
  | y :: l, x, b => by
    rw [List.cons_append, readRL, readRL]
    cases lineR b y with
    | none => rfl
    | some e => exact readRL_snoc l x _
theorem readRL_none {b : Book} {l r : List (List UInt8)} (h : readRL b l = none) : readRL b (l ++ r) = none := by
  induction l generalizing b with
  | nil => cases h
  | cons y l ih =>
    rw [readRL] at h
    rw [List.cons_append, readRL]
    cases hy : lineR b y with
    | none => rfl
    | some e => rw [hy] at h; exact ih h
theorem lineR_follows {b : Book} {l : List UInt8} {e : Ent} (h : lineR b l = some e) : follows b e = true := by
  unfold lineR at h
  simp only at h
  split at h
  · rename_i p n k _ _ _
    split at h
    · rename_i hc
      obtain ⟨_, h1, h2, h3, h4, h5, h6, h7⟩ := hc
      simp only [Option.some.injEq] at h
      subst h
      rw [follows_iff]
      have ep : ePost ((p : Int), (n : Int), (k : Int), bsB (cutR (cutR (cutR l).2.1).2.1).2.1) = (p : Int) := rfl
      have en : eNum ((p : Int), (n : Int), (k : Int), bsB (cutR (cutR (cutR l).2.1).2.1).2.1) = (n : Int) := rfl
      have ek : eCnt ((p : Int), (n : Int), (k : Int), bsB (cutR (cutR (cutR l).2.1).2.1).2.1) = (k : Int) := rfl
      rw [ep, en, ek, Int.toNat_natCast]
      refine ⟨by omega, by omega, by omega, by omega, h6, by omega, by omega, ?_⟩
      by_cases h0 : (b p).length = 0
      · exact .inl h0
      · exact .inr (h7 (by omega))
    · cases h
  · cases h
theorem readRL_ok : ∀ (l : List (List UInt8)) {b c : Book}, BookOk b → readRL b l = some c → BookOk c
  | [], b, c, hb, h => by simp only [readRL, Option.some.injEq] at h; subst h; exact hb
  | x :: l, b, c, hb, h => by
    unfold readRL at h
    split at h
    · cases h
    · rename_i e he
      exact readRL_ok l (addB_ok (e := e) hb (by unfold addB; rw [if_pos (lineR_follows he)])) h
theorem readR_some {s : ByteArray} {b : Book} (h : readR s = some b) : BookOk b ∧ textB b = s := by
  unfold readR at h
  split at h
  · rename_i b1 h1
    split at h
    · rename_i ht
      simp only [Option.some.injEq] at h
      subst h
      exact ⟨readRL_ok _ empB_ok h1, ht⟩
    · cases h
  · cases h
theorem cutR_word : ∀ (x r : List UInt8), (32 : UInt8) ∉ x → cutR (x ++ 32 :: r) = (x, r, true)
  | [], r, _ => by simp [cutR]
  | b :: x, r, h => by
    have hb : (b == 32) = false := by
      rw [beq_eq_false_iff_ne]; rintro rfl; simp at h
    rw [List.cons_append, cutR, hb, cutR_word x r (fun hm => h (by simp [hm]))]
    simp
theorem natR_itoa {n : Int} {k : Nat} (h0 : 0 ≤ n) (h1 : n < 10 ^ (k + 1)) : natR (Lib.itoa n) (k + 1) = some n.toNat := by
  obtain ⟨u, rfl⟩ := Int.eq_ofNat_of_zero_le h0
  have hi : Lib.itoa (u : Int) = Lib.decDigits u := by unfold Lib.itoa; rw [if_neg (by omega), Int.toNat_natCast]
  rw [hi, natR_of (by exact_mod_cast h1)]
  simp
theorem lineR_of {b : Book} {e : Ent} (h : follows b e = true) (hn : eNum e ≤ 60) : lineR b (lineW e) = some e := by
  rw [follows_iff] at h
  obtain ⟨h0, h1, h2, h3, h4, h5, h6, h7⟩ := h
  unfold lineR lineW
  simp only [cutR_word _ _ (itoa_no32 _)]
  rw [natR_itoa (k := 0) h0 (by omega), natR_itoa (k := 1) (by omega) (by omega), natR_itoa (k := 6) (by omega) (by omega)]
  simp only
  rw [if_pos]
  · rw [bsB_of, Int.toNat_of_nonneg h0, Int.toNat_of_nonneg (by omega), Int.toNat_of_nonneg (by omega)]
    rfl
  · rw [bsB_of]
    refine ⟨trivial, by omega, by omega, by omega, by omega, by omega, h4, fun hl => ?_⟩
    rcases h7 with h7 | h7 <;> omega
theorem readRL_map : ∀ (l : List Ent) (b d : Book), addAll b l = some d → (∀ e ∈ l, eNum e ≤ 60) → readRL b (l.map lineW) = some d
  | [], b, d, h, _ => by simpa [addAll, readRL] using h
  | e :: l, b, d, h, hn => by
    unfold addAll addB at h
    rw [List.map_cons, readRL]
    by_cases hf : follows b e = true
    · rw [if_pos hf] at h
      rw [lineR_of hf (hn e (by simp))]
      exact readRL_map l _ d h (fun x hx => hn x (by simp [hx]))
    · rw [if_neg hf] at h
      cases h
theorem readR_text {b : Book} (hb : BookOk b) : ∃ d, readR (textB b) = some d ∧ BookEq d b := by
  obtain ⟨d, h1, h2⟩ := addAll_ok hb (allB b) [] empB rfl (fun i hi => rfl)
  refine ⟨d, ?_, h2⟩
  unfold readR
  rw [show (textB b).data.toList = textL (allB b) from rfl, linesT_text (fun e he => (book_bounds hb he).2.2.2), readRL_map _ _ d h1 (fun e he => (book_bounds hb he).2.1.2)]
  simp only
  rw [h2.text, if_pos rfl]
/-- Both read the same books. -/
theorem read_same (s : ByteArray) : (readB s = none ∧ readR s = none) ∨ ∃ b c, readB s = some b ∧ readR s = some c ∧ BookOk b ∧ BookOk c ∧ BookEq b c := by
  cases h1 : readB s with
  | some b =>
    obtain ⟨hb, rfl⟩ := readB_some h1
    obtain ⟨d, h2, h3⟩ := readR_text hb
    exact .inr ⟨b, d, rfl, h2, hb, h3.symm.ok hb, h3.symm⟩
  | none =>
    cases h2 : readR s with
    | none => exact .inl ⟨rfl, rfl⟩
    | some c =>
      obtain ⟨hc, rfl⟩ := readR_some h2
      obtain ⟨d, h3, _⟩ := read_text hc
      rw [h1] at h3
      cases h3
end Go.Proofs.YtdfkaijeppdhaaaGreatDoor
