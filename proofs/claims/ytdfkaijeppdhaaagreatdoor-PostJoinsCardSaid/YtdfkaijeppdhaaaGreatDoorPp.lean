/- Plain: words, numbers, and what a line is (Post). -/
import Derived.Test.YtdfkaijeppdhaaaGreatDoorEn
import Derived.Lib.Split
import Derived.Lib.AtoiAll
import Derived.Lib.ItoaNum
import Derived.Lib.Join
namespace Go.Proofs.YtdfkaijeppdhaaaGreatDoor
open Go

def betw (a b c : Int) : Bool := decide (a ≤ b) && decide (b ≤ c)
theorem betw_iff (a b c : Int) : betw a b c = true ↔ a ≤ b ∧ b ≤ c := by simp [betw]
theorem betw_no (a b c : Int) : betw a b c = false ↔ b < a ∨ c < b := by rw [← Bool.not_eq_true, betw_iff]; omega
def notLine (r : Nat) : Bool := decide ((r : Int) < 32) || decide (126 < (r : Int))
def notName (r : Nat) : Bool := decide ((r : Int) < 97) || decide (122 < (r : Int))
def isLineB (s : ByteArray) : Bool := decide (s.size ≤ 60) && !(s.data.toList.any fun c => notLine c.toNat)
def isNameB (s : ByteArray) : Bool := betw 1 s.size 8 && !(s.data.toList.any fun c => notName c.toNat)

/-! ### Strings -/
theorem ba_ext {s t : ByteArray} (h : s.data.toList = t.data.toList) : s = t := by
  cases s; cases t
  simp only [ByteArray.mk.injEq]
  exact Array.toList_inj.1 h
def bsB (l : List UInt8) : ByteArray := ⟨l.toArray⟩
theorem bsB_list (l : List UInt8) : (bsB l).data.toList = l := rfl
theorem bsB_of (s : ByteArray) : bsB s.data.toList = s := ba_ext rfl
theorem bsB_inj {l m : List UInt8} (h : bsB l = bsB m) : l = m := by rw [← bsB_list l, h]; rfl
theorem ba_take (s : ByteArray) (i : Nat) : s.extract 0 i = bsB (s.data.toList.take i) := by
  apply ba_ext
  simp [ByteArray.data_extract, bsB]
theorem ba_drop (s : ByteArray) (i : Nat) : s.extract i s.size = bsB (s.data.toList.drop i) := by
  apply ba_ext
  simp only [ByteArray.data_extract, Array.toList_extract, List.extract_eq_take_drop, bsB]
  rw [List.take_of_length_le]
  simp
def itoaB (n : Int) : ByteArray := ⟨(Lib.itoa n).toArray⟩

/-! ### Words -/
/-- The pieces of a list of bytes between the bytes c, cut k times at most. -/
def splitN (c : UInt8) : Nat → List UInt8 → List (List UInt8)
  | _, [] => [[]]
  | 0, l => [l]
  | k + 1, b :: r => if b == c then [] :: splitN c k r else match splitN c (k + 1) r with
    | [] => [[b]]
    | x :: xs => (b :: x) :: xs
theorem splitN_ne (c : UInt8) (k : Nat) (l : List UInt8) : splitN c k l ≠ [] := by
  cases l with
  | nil => cases k <;> simp [splitN]
  | cons b r =>
    cases k with
    | zero => simp [splitN]
    | succ k =>
      unfold splitN
      split
      · simp
      · split <;> simp
theorem splitN_zero (c : UInt8) (l : List UInt8) : splitN c 0 l = [l] := by cases l <;> rfl
theorem splitN_idx (c : UInt8) (k : Nat) : ∀ l : List UInt8, (Lib.indexByte l c = -1 ∧ splitN c (k + 1) l = [l]) ∨ (∃ i : Nat, Lib.indexByte l c = i ∧ i < l.length ∧ splitN c (k + 1) l = l.take i :: splitN c k (l.drop (i + 1)))
  | [] => .inl ⟨rfl, rfl⟩
  | b :: r => by
    by_cases h : b = c
    · subst h
      exact .inr ⟨0, by simp [Lib.indexByte], by simp, by simp [splitN]⟩
    · have hb : (b == c) = false := by simpa using h
      rcases splitN_idx c k r with ⟨h1, h2⟩ | ⟨i, h1, h2, h3⟩
      · exact .inl ⟨by simp [Lib.indexByte, hb, h1], by simp [splitN, hb, h2]⟩
      · refine .inr ⟨i + 1, ?_, by simp [h2], ?_⟩
        · unfold Lib.indexByte
          rw [hb, h1]
          have : ((i : Int) == -1) = false := by simp
          simp [this]
        · rw [show splitN c (k + 1) (b :: r) = match splitN c (k + 1) r with | [] => [[b]] | x :: xs => (b :: x) :: xs by simp [splitN, hb], h3]
          simp
def splitS (c : UInt8) (k : Nat) (s : ByteArray) : List ByteArray := (splitN c k s.data.toList).map bsB
theorem splitS_ne (c : UInt8) (k : Nat) (s : ByteArray) : splitS c k s ≠ [] := fun h => splitN_ne c k s.data.toList (List.map_eq_nil_iff.1 h)
theorem splitB_is (c : UInt8) : ∀ (k : Nat) (s : ByteArray), Lib.splitB ⟨#[c]⟩ 0 k s = splitS c k s
  | 0, s => by unfold splitS; rw [splitN_zero]; simp [Lib.splitB, bsB_of]
  | k + 1, s => by
    have hi : Lib.indexB s ⟨#[c]⟩ = Lib.indexByte s.data.toList c := Lib.index_one _ _
    unfold splitS
    rcases splitN_idx c k s.data.toList with ⟨h1, h2⟩ | ⟨i, h1, h2, h3⟩
    · rw [Lib.splitB_miss _ _ _ _ (hi.trans h1), h2]; simp [bsB_of]
    · rw [Lib.splitB_hit _ _ _ _ i (hi.trans h1), h3, List.map_cons, splitB_is c k, Nat.add_zero, ba_take, show (⟨#[c]⟩ : ByteArray).size = 1 from rfl, ba_drop]
      rfl
/-- However often it may be cut beyond the number of bytes, the pieces are the same. -/
theorem splitN_all (c : UInt8) : ∀ (l : List UInt8) (k : Nat), l.count c ≤ k → splitN c k l = splitN c (l.count c) l
  | [], k, _ => by cases k <;> rfl
  | b :: r, k, h => by
    by_cases hb : b = c
    · subst hb
      rw [List.count_cons_self] at h ⊢
      obtain ⟨k, rfl⟩ : ∃ k', k = k' + 1 := ⟨k - 1, by omega⟩
      simp only [splitN, BEq.rfl, if_true]
      rw [splitN_all b r k (by omega)]
    · have hbc : (b == c) = false := by simpa using hb
      have hc : (b :: r).count c = r.count c := List.count_cons_of_ne hb
      rw [hc] at h ⊢
      cases k with
      | zero => rw [show r.count c = 0 by omega]
      | succ k =>
        have ih := splitN_all c r (k + 1) h
        cases h0 : r.count c with
        | zero =>
          rw [h0] at ih
          simp only [splitN, hbc, Bool.false_eq_true, if_false]
          rw [ih, splitN_zero]
        | succ m =>
          rw [h0] at ih
          simp only [splitN, hbc, Bool.false_eq_true, if_false]
          rw [ih]
theorem count_one (c : UInt8) : ∀ (f : Nat) (l : List UInt8), l.length < f → Lib.countFrom [c] f l = l.count c
  | 0, l, h => by omega
  | f + 1, l, h => by
    unfold Lib.countFrom
    rw [Lib.index_one]
    rcases splitN_idx c 0 l with ⟨h1, h2⟩ | ⟨i, h1, h2, h3⟩
    · rw [h1]
      have hn : c ∉ l := fun hm => by
        clear h h2
        induction l with
        | nil => simp at hm
        | cons b r ih =>
          unfold Lib.indexByte at h1
          split at h1
          · simp at h1
          · rename_i hb
            split at h1
            · rename_i hr
              rcases List.mem_cons.1 hm with rfl | hm
              · simp at hb
              · exact ih (by simpa using hr) hm
            · have := Lib.indexByte_ge r c; omega
      rw [List.count_eq_zero.2 hn]; rfl
    · rw [h1]
      have hne : ((i : Int) == -1) = false := by simp
      have hsp : l = l.take i ++ (c :: l.drop (i + 1)) := by
        have hget : l[i]'h2 = c ∧ c ∉ l.take i := by
          clear h hne h3
          induction l generalizing i with
          | nil => simp at h2
          | cons b r ih =>
            unfold Lib.indexByte at h1
            split at h1
            · rename_i hb
              have : i = 0 := by omega
              subst this
              simp at hb ⊢
              exact hb
            · rename_i hb
              split at h1
              · omega
              · rename_i hr
                have hr' : Lib.indexByte r c ≠ -1 := by simpa using hr
                obtain ⟨j, rfl⟩ : ∃ j, i = j + 1 := ⟨i - 1, by have := Lib.indexByte_ge r c; omega⟩
                have := ih j (by omega) (by simpa using h2)
                refine ⟨by simpa using this.1, ?_⟩
                simp only [List.take_succ_cons, List.mem_cons, not_or]
                exact ⟨fun e => hb (by simp [e]), this.2⟩
        conv => lhs; rw [← List.take_append_drop i l]
        rw [List.drop_eq_getElem_cons h2, hget.1]
      have hnt : (l.take i).count c = 0 := by
        refine List.count_eq_zero.2 fun hm => ?_
        clear h hne h3 hsp
        induction l generalizing i with
        | nil => simp at h2
        | cons b r ih =>
          unfold Lib.indexByte at h1
          split at h1
          · have : i = 0 := by omega
            subst this; simp at hm
          · rename_i hb
            split at h1
            · omega
            · rename_i hr
              have hr' : Lib.indexByte r c ≠ -1 := by simpa using hr
              obtain ⟨j, rfl⟩ : ∃ j, i = j + 1 := ⟨i - 1, by have := Lib.indexByte_ge r c; omega⟩
              rw [List.take_succ_cons, List.mem_cons] at hm
              rcases hm with rfl | hm
              · simp at hb
              · exact ih j (by omega) (by simpa using h2) hm
      rw [hne]
      simp only [Bool.false_eq_true, if_false, Int.toNat_natCast, List.length_cons, List.length_nil, Nat.zero_add]
      rw [count_one c f _ (by rw [List.length_drop]; omega)]
      conv => rhs; rw [hsp]
      rw [List.count_append, hnt, List.count_cons_self]
      omega
theorem countB_one (s : ByteArray) (c : UInt8) : Lib.countB s ⟨#[c]⟩ = s.data.toList.count c := count_one c _ _ (Nat.lt_succ_self _)
/-- All pieces. -/
def splitA (c : UInt8) (s : ByteArray) : List ByteArray := splitS c (s.data.toList.count c) s
theorem splitB_all (s : ByteArray) (c : UInt8) : Lib.splitB ⟨#[c]⟩ 0 (Lib.countB s ⟨#[c]⟩) s = splitA c s := by rw [countB_one, splitB_is]; rfl
theorem splitN_len (c : UInt8) : ∀ l : List UInt8, (splitN c (l.count c) l).length = l.count c + 1
  | [] => rfl
  | b :: r => by
    by_cases hb : b = c
    · subst hb
      rw [List.count_cons_self]
      simp only [splitN, BEq.rfl, if_true, List.length_cons]
      rw [splitN_len b r]
    · have hbc : (b == c) = false := by simpa using hb
      rw [List.count_cons_of_ne hb]
      have ih := splitN_len c r
      cases h0 : r.count c with
      | zero => rw [splitN_zero]; rfl
      | succ m =>
        rw [h0] at ih
        simp only [splitN, hbc, Bool.false_eq_true, if_false]
        generalize splitN c (m + 1) r = q at *
        cases q with
        | nil => simp at ih
        | cons x xs => simpa using ih
theorem splitA_len (c : UInt8) (s : ByteArray) : (splitA c s).length = s.data.toList.count c + 1 := by unfold splitA splitS; rw [List.length_map, splitN_len]
theorem splitA_ne (c : UInt8) (s : ByteArray) : splitA c s ≠ [] := splitS_ne _ _ _
theorem splitN_join (c : UInt8) : ∀ (l : List UInt8) (k : Nat), Lib.join (splitN c k l) [c] = l
  | [], k => by cases k <;> rfl
  | b :: r, 0 => by rw [splitN_zero, Lib.join_one]
  | b :: r, k + 1 => by
    by_cases hb : b = c
    · subst hb
      simp only [splitN, BEq.rfl, if_true]
      have ih := splitN_join b r k
      rw [Lib.join_cons]
      cases hq : splitN b k r with
      | nil => exact absurd hq (splitN_ne _ _ _)
      | cons x xs =>
        rw [hq, Lib.join_cons] at ih
        simp only [Lib.joinTail, List.map_cons, List.flatten_cons, List.nil_append, List.cons_append] at ih ⊢
        rw [ih]
    · have hbc : (b == c) = false := by simpa using hb
      have ih := splitN_join c r (k + 1)
      simp only [splitN, hbc, Bool.false_eq_true, if_false]
      cases hq : splitN c (k + 1) r with
      | nil => exact absurd hq (splitN_ne _ _ _)
      | cons x xs =>
        rw [hq, Lib.join_cons] at ih
        rw [Lib.join_cons, List.cons_append, ih]
/-- The words behind the first one, joined, are what stands behind the first space. -/
theorem splitN_cons (c : UInt8) (k : Nat) (l x : List UInt8) (xs : List (List UInt8)) (h : splitN c k l = x :: xs) (hx : xs ≠ []) : l = x ++ c :: Lib.join xs [c] := by
  have := splitN_join c l k
  rw [h, Lib.join_cons] at this
  obtain ⟨y, ys, rfl⟩ : ∃ y ys, xs = y :: ys := by cases xs with | nil => exact absurd rfl hx | cons y ys => exact ⟨y, ys, rfl⟩
  rw [← this, Lib.join_cons]
  simp [Lib.joinTail]
end Go.Proofs.YtdfkaijeppdhaaaGreatDoor
