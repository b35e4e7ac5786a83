/- Plain: what a line says, what a book says, what posts do (Post). -/
import Derived.Test.YtdfkaijeppdhaaaGreatDoorPp
namespace Go.Proofs.YtdfkaijeppdhaaaGreatDoor
open Go

def noE : Ent := (0, 0, 0, ⟨#[]⟩)
def emp : ByteArray := ⟨#[]⟩

/-! ### Numerals -/
theorem decDigits_byte (u : Nat) : ∀ x ∈ Lib.decDigits u, 48 ≤ x.toNat ∧ x.toNat ≤ 57 := by
  induction u using Nat.strongRecOn with
  | _ u ih =>
    intro x hx
    rw [Lib.decDigits] at hx
    have one : ∀ d, d < 10 → 48 ≤ (UInt8.ofNat (48 + d)).toNat ∧ (UInt8.ofNat (48 + d)).toNat ≤ 57 := fun d hd => by
      rw [UInt8.toNat_ofNat']; omega
    split at hx
    · rename_i h
      have : x = UInt8.ofNat (48 + u) := by simpa using hx
      rw [this]; exact one u h
    · rename_i h
      rcases List.mem_append.1 hx with hx | hx
      · exact ih (u / 10) (by omega) x hx
      · have : x = UInt8.ofNat (48 + u % 10) := by simpa using hx
        rw [this]; exact one (u % 10) (by omega)
theorem itoa_byte (n : Int) : ∀ x ∈ Lib.itoa n, x.toNat = 45 ∨ 48 ≤ x.toNat ∧ x.toNat ≤ 57 := by
  intro x hx
  unfold Lib.itoa at hx
  split at hx
  · rcases List.mem_cons.1 hx with rfl | hx
    · exact .inl rfl
    · exact .inr (decDigits_byte _ x hx)
  · exact .inr (decDigits_byte _ x hx)
theorem nDigits_le : ∀ (k u : Nat), u < 10 ^ (k + 1) → Lib.nDigits u ≤ k + 1
  | 0, u, h => by rw [Lib.nDigits_small (by simpa using h)]; exact Nat.le_refl _
  | k + 1, u, h => by
    by_cases h1 : u < 10
    · rw [Lib.nDigits_small h1]; omega
    · rw [Lib.nDigits_big h1]
      have := nDigits_le k (u / 10) (by rw [Nat.pow_succ] at h; omega)
      omega
theorem itoa_len5 {n : Int} (h0 : -9999 ≤ n) (h1 : n ≤ 9999) : (Lib.itoa n).length ≤ 5 := by
  unfold Lib.itoa
  split
  · rw [List.length_cons, Lib.decDigits_length]
    have := nDigits_le 3 n.natAbs (by omega)
    omega
  · rw [Lib.decDigits_length]
    have := nDigits_le 3 n.toNat (by omega)
    omega
theorem itoa_len {n : Int} (h0 : -1000000000 ≤ n) (h1 : n ≤ 1000000000) : (Lib.itoa n).length ≤ 11 := by
  unfold Lib.itoa
  split
  · rw [List.length_cons, Lib.decDigits_length]
    have := nDigits_le 9 n.natAbs (by omega)
    omega
  · rw [Lib.decDigits_length]
    have := nDigits_le 9 n.toNat (by omega)
    omega
theorem decDigits_ne (u : Nat) : Lib.decDigits u ≠ [] := by
  intro h
  have := Lib.decDigits_length u
  rw [h] at this
  have := Lib.nDigits_pos u
  simp at *
  omega

/-! ### Words -/
/-- A number; none: the word is none. -/
def numV (s : ByteArray) : Option Int := match Lib.atoiAll s.data.toList with
  | .ok v => if decide (itoaB v = s) && betw (-9999) v 9999 then some v else none
  | _ => none
theorem numV_some {s : ByteArray} {v : Int} (h : numV s = some v) : s = itoaB v ∧ -9999 ≤ v ∧ v ≤ 9999 := by
  unfold numV at h
  split at h
  · split at h
    · rename_i hc
      rw [Bool.and_eq_true, decide_eq_true_eq, betw_iff] at hc
      simp only [Option.some.injEq] at h
      subst h
      exact ⟨hc.1.symm, hc.2⟩
    · cases h
  · cases h
/-- All of a list, or none. -/
def allS {α β : Type} (f : α → Option β) : List α → Option (List β)
  | [] => some []
  | x :: xs => match f x, allS f xs with
    | some y, some ys => some (y :: ys)
    | _, _ => none
theorem allS_snoc {α β : Type} (f : α → Option β) (xs : List α) (x : α) : allS f (xs ++ [x]) = match allS f xs, f x with
    | some ys, some y => some (ys ++ [y])
    | _, _ => none := by
  induction xs with
  | nil => simp only [List.nil_append, allS]; cases f x <;> rfl
  | cons z zs ih =>
    rw [List.cons_append, allS, ih]
    cases h1 : f z <;> cases h2 : allS f zs <;> cases h3 : f x <;> simp [allS, h1, h2]
theorem allS_bad {α β : Type} (f : α → Option β) (xs : List α) {x : α} (hx : x ∈ xs) (h : f x = none) : allS f xs = none := by
  induction xs with
  | nil => simp at hx
  | cons z zs ih =>
    rcases List.mem_cons.1 hx with rfl | hx
    · simp [allS, h]
    · rw [allS, ih hx]; cases f z <;> rfl
theorem allS_len {α β : Type} (f : α → Option β) : ∀ (xs : List α) (ys : List β), allS f xs = some ys → ys.length = xs.length
  | [], ys, h => by simp only [allS, Option.some.injEq] at h; subst h; rfl
  | x :: xs, ys, h => by
    rw [allS] at h
    cases h1 : f x <;> cases h2 : allS f xs <;> simp [h1, h2] at h
    subst h
    simp [allS_len f xs _ h2]
def joinS (l : List ByteArray) : ByteArray := bsB (Lib.join (l.map (·.data.toList)) [32])

/-! ### Lines -/
/-- A line: a deed or a question. -/
inductive Cmd where
  | put (name text : ByteArray)
  | drop (name : ByteArray)
  | add (name : ByteArray) (n : Int)
  | stock (name : ByteArray)
  | share (n : Int) (names : List ByteArray)
  | asked (k : Nat) (names : List ByteArray) (ns : List Int)
def Cmd.deed : Cmd → Bool
  | .put .. => true
  | .drop .. => true
  | .add .. => true
  | _ => false
def putW : ByteArray := ⟨#[112, 117, 116]⟩
def dropW : ByteArray := ⟨#[100, 114, 111, 112]⟩
def stockW : ByteArray := ⟨#[115, 116, 111, 99, 107]⟩
def addW : ByteArray := ⟨#[97, 100, 100]⟩
def shareW : ByteArray := ⟨#[115, 104, 97, 114, 101]⟩
def textW : ByteArray := ⟨#[116, 101, 120, 116]⟩
def beatW : ByteArray := ⟨#[98, 101, 97, 116]⟩
def farW : ByteArray := ⟨#[102, 97, 114]⟩
def driftW : ByteArray := ⟨#[100, 114, 105, 102, 116]⟩
/-- A question about texts: its kind, of how many names, and numbers. -/
def kindB (w : ByteArray) : Option (Nat × Nat × Nat) :=
  if w = textW then some (0, 1, 0) else if w = beatW then some (1, 1, 0) else if w = farW then some (2, 2, 0) else if w = driftW then some (3, 1, 2) else none
def aboutB (w : ByteArray) (rest : List ByteArray) : Option Cmd := match kindB w with
  | none => none
  | some (k, many, nums) => if rest.length ≠ many + nums then none else
    match (rest.take many).all isNameB, allS numV (rest.drop many) with
    | true, some ns => some (.asked k (rest.take many) ns)
    | _, _ => none
def lineB1 (w r0 : ByteArray) (rs : List ByteArray) (line : ByteArray) : Option Cmd :=
  if w = putW then (if isNameB r0 && !(joinS rs).data.toList.isEmpty && isLineB line then some (.put r0 (joinS rs)) else none)
  else if w = dropW then (if decide (rs = []) && isNameB r0 then some (.drop r0) else none)
  else if w = stockW then (if decide (rs = []) && isNameB r0 then some (.stock r0) else none)
  else if w = addW then (match allS numV rs with
    | some [n] => if isNameB r0 then some (.add r0 n) else none
    | _ => none)
  else if w = shareW then (match numV r0 with
    | some n => if rs.all isNameB && betw 1 rs.length 8 then some (.share n rs) else none
    | none => none)
  else aboutB w (r0 :: rs)
/-- The deed or the question of a line. -/
def parseB (line : ByteArray) : Option Cmd := match splitA 32 line with
  | w :: r0 :: rs => lineB1 w r0 rs line
  | _ => none

theorem isLineB_iff (s : ByteArray) : isLineB s = true ↔ s.size ≤ 60 ∧ ∀ c ∈ s.data.toList, 32 ≤ c.toNat ∧ c.toNat ≤ 126 := by
  unfold isLineB
  rw [Bool.and_eq_true, decide_eq_true_eq, Bool.not_eq_true', List.any_eq_false]
  refine and_congr_right fun _ => forall_congr' fun c => forall_congr' fun _ => ?_
  unfold notLine
  rw [Bool.not_eq_true, Bool.or_eq_false_iff, decide_eq_false_iff_not, decide_eq_false_iff_not]
  omega
theorem isNameB_iff (s : ByteArray) : isNameB s = true ↔ 1 ≤ s.size ∧ s.size ≤ 8 ∧ ∀ c ∈ s.data.toList, 97 ≤ c.toNat ∧ c.toNat ≤ 122 := by
  unfold isNameB
  rw [Bool.and_eq_true, betw_iff, Bool.not_eq_true', List.any_eq_false, and_assoc]
  refine and_congr (by omega) (and_congr (by omega) (forall_congr' fun c => forall_congr' fun _ => ?_))
  unfold notName
  rw [Bool.not_eq_true, Bool.or_eq_false_iff, decide_eq_false_iff_not, decide_eq_false_iff_not]
  omega
theorem lineB_is (s : ByteArray) : lineB s = isLineB s := by
  rw [Bool.eq_iff_iff, isLineB_iff]
  unfold lineB
  rw [Bool.and_eq_true, decide_eq_true_eq, List.all_eq_true]
  refine and_congr_right fun _ => forall_congr' fun c => forall_congr' fun _ => ?_
  rw [Bool.and_eq_true, decide_eq_true_eq, decide_eq_true_eq]
theorem ba_size (s : ByteArray) : s.size = s.data.toList.length := by simp
/-- A line is its words, joined. -/
theorem splitA_cons {s w : ByteArray} {rs : List ByteArray} (h : splitA 32 s = w :: rs) (hr : rs ≠ []) : s.data.toList = w.data.toList ++ 32 :: (joinS rs).data.toList := by
  unfold splitA splitS at h
  obtain ⟨x, xs, hq, hx, hxs⟩ := List.map_eq_cons_iff.1 h
  have := splitN_cons 32 _ _ x xs hq (by rintro rfl; simp at hxs; exact hr hxs)
  rw [this, ← hx, ← hxs]
  simp [joinS, bsB, List.map_map, Function.comp_def]
theorem joinS_one (r : ByteArray) : joinS [r] = r := by unfold joinS; rw [List.map_singleton, Lib.join_one]; exact bsB_of r
theorem joinS_cons (r r2 : ByteArray) (rs : List ByteArray) : (joinS (r :: r2 :: rs)).data.toList = r.data.toList ++ 32 :: (joinS (r2 :: rs)).data.toList := by
  unfold joinS
  rw [bsB_list, bsB_list, List.map_cons, List.map_cons, Lib.join_cons, Lib.join_cons]
  simp [Lib.joinTail]
theorem ent_line {s : ByteArray} {a b : List UInt8} (h : s.data.toList = a ++ 32 :: b) (hl : a.length + b.length + 1 ≤ 60) (ha : ∀ c ∈ a, 32 ≤ c.toNat ∧ c.toNat ≤ 126) (hb : ∀ c ∈ b, 32 ≤ c.toNat ∧ c.toNat ≤ 126) : isLineB s = true := by
  rw [isLineB_iff, ba_size, h]
  refine ⟨by simp; omega, fun c hc => ?_⟩
  rcases List.mem_append.1 hc with hc | hc
  · exact ha c hc
  · rcases List.mem_cons.1 hc with rfl | hc
    · decide
    · exact hb c hc
/-- A deed is a line. -/
theorem deed_line {s : ByteArray} {c : Cmd} (h : parseB s = some c) (hd : c.deed = true) : isLineB s = true := by
  unfold parseB at h
  split at h
  · rename_i w r0 rs hs
    unfold lineB1 at h
    split at h
    · split at h
      · rename_i hc
        rw [Bool.and_eq_true] at hc
        exact hc.2
      · cases h
    · split at h
      · rename_i hw
        split at h
        · rename_i hc
          rw [Bool.and_eq_true, decide_eq_true_eq, isNameB_iff] at hc
          obtain ⟨rfl, h1, h2, h3⟩ := hc
          have he := splitA_cons hs (by simp)
          rw [joinS_one] at he
          subst hw
          exact ent_line he (by have h4 : dropW.data.toList.length = 4 := rfl; have h5 := ba_size r0; omega) (by decide) (fun c hc => by have := h3 c hc; omega)
        · cases h
      · split at h
        · split at h
          · cases h; cases hd
          · cases h
        · split at h
          · rename_i hw
            split at h
            · rename_i n hn
              split at h
              · rename_i hc
                rw [isNameB_iff] at hc
                obtain ⟨h1, h2, h3⟩ := hc
                obtain ⟨r1, rfl⟩ : ∃ r1, rs = [r1] := by
                  have := allS_len _ _ _ hn
                  match rs, this with
                  | [r], _ => exact ⟨r, rfl⟩
                have hn1 : numV r1 = some n := by
                  unfold allS at hn
                  cases h4 : numV r1 with
                  | none => simp [h4] at hn
                  | some v => simpa [h4, allS] using hn
                obtain ⟨e1, b1, b2⟩ := numV_some hn1
                have he := splitA_cons hs (by simp)
                rw [joinS_cons, joinS_one] at he
                subst hw
                have l1 := itoa_len5 b1 b2
                have e2 : r1.data.toList = Lib.itoa n := by rw [e1]; rfl
                rw [e2] at he
                refine ent_line (a := addW.data.toList) (b := r0.data.toList ++ 32 :: Lib.itoa n) he (by have h4 : addW.data.toList.length = 3 := rfl; have h5 := ba_size r0; rw [List.length_append, List.length_cons]; omega) (by decide) (fun c hc => ?_)
                rcases List.mem_append.1 hc with hc | hc
                · have := h3 c hc; omega
                · rcases List.mem_cons.1 hc with rfl | hc
                  · decide
                  · have := itoa_byte n c hc; omega
              · cases h
            · cases h
          · split at h
            · split at h
              · split at h
                · cases h; cases hd
                · cases h
              · cases h
            · unfold aboutB at h
              split at h
              · cases h
              · split at h
                · cases h
                · split at h
                  · cases h; cases hd
                  · cases h
  · cases h

/-! ### What a book says -/
structure Kn where
  txt : ByteArray → Option ByteArray
  stk : ByteArray → Int
def kn0 : Kn := ⟨fun _ => none, fun _ => 0⟩
def upd {α : Type} (f : ByteArray → α) (x : ByteArray) (v : α) : ByteArray → α := fun y => if y = x then v else f y
theorem upd_same {α : Type} (f : ByteArray → α) (x : ByteArray) (v : α) : upd f x v x = v := by simp [upd]
theorem upd_other {α : Type} (f : ByteArray → α) {x y : ByteArray} (v : α) (h : y ≠ x) : upd f x v y = f y := by simp [upd, h]
def sayB : Cmd → Kn → (ByteArray × Int) × Kn
  | .put n t, k => ((t, 0), ⟨upd k.txt n (some t), k.stk⟩)
  | .drop n, k => match k.txt n with
    | none => ((emp, 5), k)
    | some s => ((s, 0), ⟨upd k.txt n none, k.stk⟩)
  | .add n m, k => ((itoaB (k.stk n + m), 0), ⟨k.txt, upd k.stk n (k.stk n + m)⟩)
  | _, k => ((emp, 0), k)
def lineSay (k : Kn) (s : ByteArray) : Kn := match parseB s with
  | some c => if c.deed then (sayB c k).2 else k
  | none => k
def saysFrom (k : Kn) (l : List Ent) : Kn := l.foldl (fun k e => lineSay k (eLine e)) k
def saysB (l : List Ent) : Kn := saysFrom kn0 l
theorem saysB_snoc (l : List Ent) (e : Ent) : saysB (l ++ [e]) = lineSay (saysB l) (eLine e) := by unfold saysB saysFrom; rw [List.foldl_append]; rfl

/-! ### What posts do -/
def newE (b : Book) (n : Nat) (line : ByteArray) : Ent := ((n : Int), ((b n).length : Int) + 1, cntB b + 1, line)
def addAt (b : Book) (n : Nat) (e : Ent) : Book := setB b n (b n ++ [e])
/-- Do: answer, error, book. -/
def doB (b : Book) (n : Nat) (line : ByteArray) : ByteArray × Int × Book := match parseB line with
  | none => (emp, 100, b)
  | some c => if c.deed = false then (emp, 100, b) else
    if 60 ≤ (b n).length ∨ 1000000 ≤ cntB b then (emp, 4, b) else
    if (sayB c (saysB (allB b))).1.2 = 0 then ((sayB c (saysB (allB b))).1.1, 0, addAt b n (newE b n line)) else (emp, (sayB c (saysB (allB b))).1.2, b)

/-! ### Counts -/
theorem lastC_append (l : List Ent) (e : Ent) : lastC (l ++ [e]) = eCnt e := by unfold lastC; simp
theorem lastC_le {i : Nat} {l : List Ent} (h : ListOk i l) : 0 ≤ lastC l ∧ lastC l ≤ 1000000 := by
  unfold lastC
  cases hl : l.getLast? with
  | none => simp
  | some e => have := h.mem (List.mem_of_getLast? hl); simp; omega
theorem cnt_le_last {i : Nat} {l : List Ent} (h : ListOk i l) {e : Ent} (he : e ∈ l) : eCnt e ≤ lastC l := by
  obtain ⟨j, hj, rfl⟩ := List.getElem_of_mem he
  have hl : lastC l = eCnt (l[l.length - 1]'(by omega)) := by
    unfold lastC
    rw [List.getLast?_eq_getElem?, List.getElem?_eq_getElem (by omega)]
  rw [hl]
  by_cases hjl : j = l.length - 1
  · subst hjl; exact Int.le_refl _
  · exact Int.le_of_lt (List.pairwise_iff_getElem.1 h.asc j (l.length - 1) hj (by omega) (by omega))
theorem cntB_le {b : Book} (hb : BookOk b) : 0 ≤ cntB b ∧ cntB b ≤ 1000000 := by
  have h0 := lastC_le (hb 0 (by omega))
  have h1 := lastC_le (hb 1 (by omega))
  have h2 := lastC_le (hb 2 (by omega))
  have h3 := lastC_le (hb 3 (by omega))
  unfold cntB
  omega
theorem last_le_cnt (b : Book) {i : Nat} (hi : i < 4) : lastC (b i) ≤ cntB b := by
  unfold cntB
  rcases (show i = 0 ∨ i = 1 ∨ i = 2 ∨ i = 3 by omega) with rfl | rfl | rfl | rfl <;> omega
theorem listOk_snoc {i : Nat} {l : List Ent} (h : ListOk i l) {e : Ent} (hlen : l.length < 60) (h1 : ePost e = i) (h2 : eNum e = (l.length : Int) + 1) (h3 : 1 ≤ eCnt e) (h4 : eCnt e ≤ 1000000) (h5 : lineB (eLine e) = true) (h6 : lastC l < eCnt e) : ListOk i (l ++ [e]) := by
  refine ⟨by simp; omega, fun j hj => ?_, List.pairwise_append.2 ⟨h.asc, List.pairwise_singleton _ _, fun a ha c hc => ?_⟩⟩
  · by_cases hjl : j < l.length
    · rw [List.getElem_append_left hjl]; exact h.own j hjl
    · have hjl2 : j = l.length := by simp at hj; omega
      subst hjl2
      simp only [List.getElem_append_right (Nat.le_refl _), Nat.sub_self, List.getElem_cons_zero]
      exact ⟨h1, by simpa using h2, h3, h4, h5⟩
  · have : c = e := by simpa using hc
    subst this
    have := cnt_le_last h ha
    omega
theorem setB_ok {b : Book} (hb : BookOk b) {n : Nat} {l : List Ent} (hl : ListOk n l) : BookOk (setB b n l) := fun i hi => by
  by_cases h : i = n
  · subst h; rw [setB_same]; exact hl
  · rw [setB_other _ _ h]; exact hb i hi
theorem addAt_ok {b : Book} (hb : BookOk b) {n : Nat} (hn : n < 4) {line : ByteArray} (h1 : (b n).length < 60) (h2 : cntB b < 1000000) (h3 : isLineB line = true) : BookOk (addAt b n (newE b n line)) := by
  have hc := cntB_le hb
  have hl := last_le_cnt b hn
  exact setB_ok hb (listOk_snoc (hb n hn) h1 rfl rfl (by show 1 ≤ cntB b + 1; omega) (by show cntB b + 1 ≤ 1000000; omega) (by rw [lineB_is]; exact h3) (by show lastC (b n) < cntB b + 1; omega))
theorem doB_ok {b : Book} (hb : BookOk b) {n : Nat} (hn : n < 4) (line : ByteArray) : BookOk (doB b n line).2.2 := by
  unfold doB
  split
  · exact hb
  · rename_i c hp
    split
    · exact hb
    · rename_i hd
      split
      · exact hb
      · rename_i hlim
        split
        · exact addAt_ok hb hn (by omega) (by omega) (deed_line hp (by simpa using hd))
        · exact hb
theorem longL_ok {i : Nat} {l m : List Ent} (hl : ListOk i l) (hm : ListOk i m) : ListOk i (longL l m) := by unfold longL; split <;> assumption
theorem joinB_ok {b o c : Book} (hb : BookOk b) (ho : BookOk o) (h : joinB b o = some c) : BookOk c := by
  unfold joinB at h
  split at h
  · simp only [Option.some.injEq] at h
    subst h
    exact fun i hi => longL_ok (hb i hi) (ho i hi)
  · cases h
end Go.Proofs.YtdfkaijeppdhaaaGreatDoor
