/- Plain: what a book says, as the reference keeps it; the entries since, and the greatest count (Post). -/
import Derived.Test.YtdfkaijeppdhaaaGreatDoorRb
namespace Go.Proofs.YtdfkaijeppdhaaaGreatDoor
open Go

/-- A name, its text (empty: there is none), its sum. -/
abbrev Rw := ByteArray × ByteArray × Int
/-- The place of a name; behind all if there is none. -/
def rsAt (n : ByteArray) : List Rw → Nat
  | [] => 0
  | x :: r => if x.1 = n then 0 else rsAt n r + 1
theorem rsAt_le (n : ByteArray) : ∀ l, rsAt n l ≤ l.length
  | [] => Nat.le_refl _
  | x :: r => by
    have := rsAt_le n r
    unfold rsAt
    split <;> simp only [List.length_cons] <;> omega
theorem rsAt_name (n : ByteArray) : ∀ (l : List Rw) (h : rsAt n l < l.length), (l[rsAt n l]).1 = n
  | [], h => by simp at h
  | x :: r, h => by
    by_cases hx : x.1 = n
    · have e : rsAt n (x :: r) = 0 := by simp [rsAt, hx]
      simp only [e, List.getElem_cons_zero]; exact hx
    · have e : rsAt n (x :: r) = rsAt n r + 1 := by simp [rsAt, hx]
      simp only [e, List.getElem_cons_succ]
      exact rsAt_name n r (by rw [e] at h; simpa using h)
theorem rsAt_before (n : ByteArray) : ∀ (l : List Rw) (j : Nat) (h : j < l.length), j < rsAt n l → (l[j]).1 ≠ n
  | [], j, h, _ => by simp at h
  | x :: r, 0, h, hj => by
    simp only [List.getElem_cons_zero]
    intro hx
    simp [rsAt, hx] at hj
  | x :: r, j + 1, h, hj => by
    simp only [List.getElem_cons_succ]
    by_cases hx : x.1 = n
    · simp [rsAt, hx] at hj
    · exact rsAt_before n r j (by simpa using h) (by simp [rsAt, hx] at hj; omega)
theorem rsAt_is (n : ByteArray) : ∀ (l : List Rw) (i : Nat), (∀ j (h : j < l.length), j < i → (l[j]).1 ≠ n) → (∀ h : i < l.length, (l[i]).1 = n) → i ≤ l.length → rsAt n l = i
  | [], i, _, _, h3 => by simp at h3; subst h3; rfl
  | x :: r, 0, _, h2, _ => by
    have := h2 (by simp)
    simp only [List.getElem_cons_zero] at this
    simp [rsAt, this]
  | x :: r, i + 1, h1, h2, h3 => by
    have h0 := h1 0 (by simp) (by omega)
    simp only [List.getElem_cons_zero] at h0
    have := rsAt_is n r i (fun j h hj => by
      have h9 := h1 (j + 1) (by simpa using h) (by omega)
      rw [List.getElem_cons_succ] at h9
      exact h9) (fun h => by
      have h9 := h2 (by simpa using h)
      rw [List.getElem_cons_succ] at h9
      exact h9) (by simpa using h3)
    simp [rsAt, h0, this]
def rsMk (l : List Rw) (n : ByteArray) : List Rw := if rsAt n l < l.length then l else l ++ [(n, emp, 0)]
def rsGet (l : List Rw) (n : ByteArray) : Rw := l.getD (rsAt n l) (n, emp, 0)
def rsTxt (l : List Rw) (n : ByteArray) : ByteArray := (rsGet l n).2.1
def rsSum (l : List Rw) (n : ByteArray) : Int := (rsGet l n).2.2
def rsPutT (l : List Rw) (i : Nat) (t : ByteArray) : List Rw := l.modify i fun x => (x.1, t, x.2.2)
def rsPutS (l : List Rw) (i : Nat) (m : Int) : List Rw := l.modify i fun x => (x.1, x.2.1, m)
theorem rsMk_at (l : List Rw) (n : ByteArray) : rsAt n (rsMk l n) = rsAt n l ∧ rsAt n l < (rsMk l n).length := by
  unfold rsMk
  by_cases h : rsAt n l < l.length
  · rw [if_pos h]; exact ⟨rfl, h⟩
  · rw [if_neg h]
    have e : rsAt n l = l.length := by have := rsAt_le n l; omega
    refine ⟨?_, by rw [e]; simp⟩
    rw [e]
    refine rsAt_is n _ _ (fun j hj hlt => ?_) (fun hj => ?_) (by simp)
    · rw [List.getElem_append_left hlt]
      exact rsAt_before n l j hlt (by omega)
    · simp
theorem rsMk_len (l : List Rw) (n : ByteArray) : (rsMk l n).length ≤ l.length + 1 := by
  unfold rsMk; split <;> simp
theorem rsGet_mk (l : List Rw) (n m : ByteArray) : rsGet (rsMk l n) m = rsGet l m := by
  unfold rsMk
  by_cases h : rsAt n l < l.length
  · rw [if_pos h]
  · rw [if_neg h]
    have e : rsAt n l = l.length := by have := rsAt_le n l; omega
    unfold rsGet
    by_cases hm : rsAt m l < l.length
    · have e2 : rsAt m (l ++ [(n, emp, 0)]) = rsAt m l := rsAt_is m _ _ (fun j hj hlt => by
        rw [List.getElem_append_left (by omega)]
        exact rsAt_before m l j (by omega) hlt) (fun hj => by
        rw [List.getElem_append_left hm]
        exact rsAt_name m l hm) (by simp; omega)
      rw [e2, List.getD_eq_getElem?_getD, List.getD_eq_getElem?_getD, List.getElem?_append_left hm]
    · have e3 : rsAt m l = l.length := by have := rsAt_le m l; omega
      have hr : l.getD (rsAt m l) (m, emp, 0) = (m, emp, 0) := by rw [e3, List.getD_eq_getElem?_getD, List.getElem?_eq_none (Nat.le_refl _)]; rfl
      rw [hr]
      by_cases hmn : m = n
      · subst hmn
        have e2 : rsAt m (l ++ [(m, emp, 0)]) = l.length := rsAt_is m _ _ (fun j hj hlt => by
          rw [List.getElem_append_left hlt]
          exact rsAt_before m l j hlt (by omega)) (fun hj => by simp) (by simp)
        rw [e2, List.getD_eq_getElem?_getD, List.getElem?_append_right (Nat.le_refl _)]
        simp
      · have e2 : rsAt m (l ++ [(n, emp, 0)]) = l.length + 1 := rsAt_is m _ _ (fun j hj hlt => by
          by_cases hjl : j < l.length
          · rw [List.getElem_append_left hjl]
            exact rsAt_before m l j hjl (by omega)
          · have : j = l.length := by omega
            subst this
            simp only [List.getElem_append_right (Nat.le_refl _), Nat.sub_self, List.getElem_cons_zero]
            exact fun h => hmn h.symm) (fun hj => by simp at hj) (by simp)
        rw [e2, List.getD_eq_getElem?_getD, List.getElem?_eq_none (by simp)]
        rfl
theorem modify_names (l : List Rw) (i : Nat) (f : Rw → Rw) (hf : ∀ x, (f x).1 = x.1) (m : ByteArray) : rsAt m (l.modify i f) = rsAt m l := by
  have hlen : (l.modify i f).length = l.length := List.length_modify ..
  refine rsAt_is m _ _ (fun j hj hlt => ?_) (fun hj => ?_) (by rw [hlen]; exact rsAt_le m l)
  · rw [List.getElem_modify]
    have := rsAt_before m l j (by rw [hlen] at hj; exact hj) hlt
    split
    · rw [hf]; exact this
    · exact this
  · rw [List.getElem_modify]
    have := rsAt_name m l (by rw [hlen] at hj; exact hj)
    split
    · rw [hf]; exact this
    · exact this
theorem modify_get (l : List Rw) (n m : ByteArray) (f : Rw → Rw) (hf : ∀ x, (f x).1 = x.1) (h : rsAt n l < l.length) : rsGet (l.modify (rsAt n l) f) m = if m = n then f (rsGet l n) else rsGet l m := by
  unfold rsGet
  rw [modify_names l _ f hf]
  by_cases hm : m = n
  · subst hm
    rw [if_pos rfl, List.getD_eq_getElem?_getD, List.getD_eq_getElem?_getD, List.getElem?_eq_getElem (by rw [List.length_modify]; exact h), List.getElem?_eq_getElem h, List.getElem_modify]
    simp
  · rw [if_neg hm]
    by_cases hl : rsAt m l < l.length
    · rw [List.getD_eq_getElem?_getD, List.getD_eq_getElem?_getD, List.getElem?_eq_getElem (by rw [List.length_modify]; exact hl), List.getElem?_eq_getElem hl, List.getElem_modify]
      rw [if_neg]
      intro e
      have h1 := rsAt_name n l h
      have h2 := rsAt_name m l hl
      simp only [e] at h1
      exact hm (h2.symm.trans h1)
    · rw [List.getD_eq_getElem?_getD, List.getD_eq_getElem?_getD, List.getElem?_eq_none (by rw [List.length_modify]; omega), List.getElem?_eq_none (by omega)]
/-- What is said, as the program keeps it. -/
def optT (t : ByteArray) : Option ByteArray := if t = emp then none else some t
theorem optT_emp : optT emp = none := if_pos rfl
theorem optT_some {t : ByteArray} (h : t ≠ emp) : optT t = some t := if_neg h
def knR (l : List Rw) : Kn := ⟨fun n => optT (rsTxt l n), fun n => rsSum l n⟩
theorem kn_ext {a b : Kn} (h1 : ∀ n, a.txt n = b.txt n) (h2 : ∀ n, a.stk n = b.stk n) : a = b := by
  cases a; cases b
  simp only [Kn.mk.injEq]
  exact ⟨funext h1, funext h2⟩
theorem rsMk_kn (l : List Rw) (n : ByteArray) : knR (rsMk l n) = knR l := by
  refine kn_ext (fun m => ?_) (fun m => ?_)
  · simp only [knR, rsTxt, rsGet_mk]
  · simp only [knR, rsSum, rsGet_mk]
theorem rsPutT_get (l : List Rw) (n m t : ByteArray) : rsGet (rsPutT (rsMk l n) (rsAt n l) t) m = if m = n then ((rsGet l n).1, t, (rsGet l n).2.2) else rsGet l m := by
  obtain ⟨h1, h2⟩ := rsMk_at l n
  have := modify_get (rsMk l n) n m (fun x => (x.1, t, x.2.2)) (fun _ => rfl) (by rw [h1]; exact h2)
  rw [h1, rsGet_mk, rsGet_mk] at this
  exact this
theorem rsPutS_get (l : List Rw) (n m : ByteArray) (k : Int) : rsGet (rsPutS (rsMk l n) (rsAt n l) k) m = if m = n then ((rsGet l n).1, (rsGet l n).2.1, k) else rsGet l m := by
  obtain ⟨h1, h2⟩ := rsMk_at l n
  have := modify_get (rsMk l n) n m (fun x => (x.1, x.2.1, k)) (fun _ => rfl) (by rw [h1]; exact h2)
  rw [h1, rsGet_mk, rsGet_mk] at this
  exact this
/-- What a line does. -/
def deedV (l : List Rw) (line : ByteArray) : (ByteArray × Int) × List Rw := match deedR line with
  | some (.put n t) => ((t, 0), rsPutT (rsMk l n) (rsAt n l) t)
  | some (.drop n) => if rsTxt l n = emp then ((emp, 5), rsMk l n) else ((rsTxt l n, 0), rsPutT (rsMk l n) (rsAt n l) emp)
  | some (.add n m) => ((itoaB (rsSum l n + m), 0), rsPutS (rsMk l n) (rsAt n l) (rsSum l n + m))
  | _ => ((emp, 100), l)
theorem deedR_put {line n t : ByteArray} (h : deedR line = some (.put n t)) : t ≠ emp := by
  unfold deedR at h
  simp only at h
  split at h
  · cases h
  · split at h
    · split at h
      · cases h
      · rename_i hne
        simp only [Option.some.injEq, Cmd.put.injEq] at h
        intro e
        rw [← h.2] at e
        exact hne (bsB_inj (m := []) e)
    · split at h
      · split at h <;> cases h
      · split at h
        · split at h <;> cases h
        · cases h
theorem deedV_same (l : List Rw) (line : ByteArray) : match deedP line with
    | none => deedV l line = ((emp, 100), l)
    | some c => (deedV l line).1 = (sayB c (knR l)).1 ∧ knR (deedV l line).2 = (sayB c (knR l)).2 := by
  have hs := deed_same line
  rw [← hs]
  unfold deedV
  cases hd : deedR line with
  | none => rfl
  | some c =>
    have hdd : c.deed = true := by
      rw [hd] at hs
      unfold deedP at hs
      split at hs
      · split at hs
        · cases hs; assumption
        · cases hs
      · cases hs
    cases c with
    | put n t =>
      refine ⟨rfl, ?_⟩
      simp only [sayB]
      have ht := deedR_put hd
      refine kn_ext (fun m => ?_) (fun m => ?_)
      · simp only [knR, rsTxt, rsPutT_get, upd]
        by_cases e : m = n
        · simp [e, optT_some ht]
        · simp [e]
      · simp only [knR, rsSum, rsPutT_get]
        by_cases e : m = n
        · simp [e]
        · simp [e]
    | drop n =>
      by_cases he : rsTxt l n = emp
      · have hk : (knR l).txt n = none := by simp [knR, he, optT_emp]
        simp only [sayB, hk, if_pos he]
        exact ⟨trivial, rsMk_kn l n⟩
      · have hk : (knR l).txt n = some (rsTxt l n) := optT_some he
        simp only [sayB, hk, if_neg he]
        refine ⟨trivial, kn_ext (fun m => ?_) (fun m => ?_)⟩
        · simp only [knR, rsTxt, rsPutT_get, upd]
          by_cases e : m = n
          · simp [e, optT_emp]
          · simp [e]
        · simp only [knR, rsSum, rsPutT_get]
          by_cases e : m = n
          · simp [e]
          · simp [e]
    | add n k =>
      refine ⟨rfl, ?_⟩
      simp only [sayB]
      refine kn_ext (fun m => ?_) (fun m => ?_)
      · simp only [knR, rsTxt, rsPutS_get]
        by_cases e : m = n
        · simp [e]
        · simp [e]
      · simp only [knR, rsSum, rsPutS_get, upd]
        by_cases e : m = n
        · simp [e]
        · simp [e]
    | stock n => cases hdd
    | share n ns => cases hdd
    | asked k ns n => cases hdd
/-- What entries say. -/
def saysR : List Ent → List Rw → List Rw
  | [], l => l
  | e :: r, l => saysR r (deedV l (eLine e)).2
theorem saysR_snoc : ∀ (es : List Ent) (e : Ent) (l : List Rw), saysR (es ++ [e]) l = (deedV (saysR es l) (eLine e)).2
  | [], _, _ => rfl
  | x :: es, e, l => saysR_snoc es e _
theorem lineSay_kn (l : List Rw) (line : ByteArray) : knR (deedV l line).2 = lineSay (knR l) line := by
  have h := deedV_same l line
  unfold deedP at h
  unfold lineSay
  cases hp : parseB line with
  | none => rw [hp] at h; simp only at h ⊢; rw [h]
  | some c =>
    rw [hp] at h
    cases hd : c.deed with
    | false => simp only [hd] at h ⊢; simp only [Bool.false_eq_true, if_false] at h ⊢; rw [h]
    | true => simp only [hd, if_true] at h ⊢; exact h.2
theorem saysR_from : ∀ (es : List Ent) (l : List Rw), knR (saysR es l) = saysFrom (knR l) es
  | [], _ => rfl
  | e :: es, l => by
    rw [saysR, saysR_from es, lineSay_kn]
    rfl
theorem knR_nil : knR [] = kn0 := by
  refine kn_ext (fun m => ?_) (fun m => ?_)
  · simp [knR, rsTxt, rsGet, kn0, optT_emp]
  · simp [knR, rsSum, rsGet, kn0]
theorem saysR_kn (es : List Ent) : knR (saysR es []) = saysB es := by rw [saysR_from, knR_nil]; rfl
theorem deedV_len (l : List Rw) (line : ByteArray) : (deedV l line).2.length ≤ l.length + 1 := by
  unfold deedV
  split
  · rw [rsPutT, List.length_modify]; exact rsMk_len _ _
  · split
    · exact rsMk_len _ _
    · rw [rsPutT, List.length_modify]; exact rsMk_len _ _
  · rw [rsPutS, List.length_modify]; exact rsMk_len _ _
  · simp
theorem saysR_len : ∀ (es : List Ent) (l : List Rw), (saysR es l).length ≤ l.length + es.length
  | [], _ => Nat.le_refl _
  | e :: es, l => by
    have h1 := saysR_len es (deedV l (eLine e)).2
    have h2 := deedV_len l (eLine e)
    rw [saysR, List.length_cons]
    omega

/-! ### Join -/
theorem longL_fit {l m : List Ent} (h : fitL l m = true) : longL l m = if l.length < m.length then m else l := by
  unfold longL
  by_cases h1 : m.length < l.length
  · rw [if_pos h1, if_neg (by omega)]
  · rw [if_neg h1]
    by_cases h2 : l.length < m.length
    · rw [if_pos h2]
    · rw [if_neg h2]
      unfold fitL at h
      simp only [Bool.or_eq_true, decide_eq_true_eq] at h
      rcases h with h | h
      · exact (h.eq_of_length (by omega)).symm
      · exact h.eq_of_length (by omega)
end Go.Proofs.YtdfkaijeppdhaaaGreatDoor
