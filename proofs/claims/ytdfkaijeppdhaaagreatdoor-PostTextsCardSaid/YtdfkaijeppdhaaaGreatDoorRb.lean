/- Plain: the entries in order, as the reference takes them: of what is left the least one is next (Post). -/
import Derived.Test.YtdfkaijeppdhaaaGreatDoorRg
namespace Go.Proofs.YtdfkaijeppdhaaaGreatDoor
open Go

def setNx (nx : Nat → Nat) (i k : Nat) : Nat → Nat := fun j => if j = i then k else nx j
theorem setNx_same (nx : Nat → Nat) (i k : Nat) : setNx nx i k i = k := by simp [setNx]
theorem setNx_other (nx : Nat → Nat) {i j : Nat} (k : Nat) (h : j ≠ i) : setNx nx i k j = nx j := by simp [setNx, h]
/-- What has been taken. -/
structure Mg (b : Book) (nx : Nat → Nat) (out : List Ent) : Prop where
  le : ∀ i, i < 4 → nx i ≤ (b i).length
  asc : Asc out
  perm : out.Perm ((b 0).take (nx 0) ++ ((b 1).take (nx 1) ++ ((b 2).take (nx 2) ++ (b 3).take (nx 3))))
  low : ∀ x ∈ out, ∀ i, i < 4 → ∀ j (h : j < (b i).length), nx i ≤ j → eLt x (b i)[j]
theorem Mg.start (b : Book) : Mg b (fun _ => 0) [] := ⟨fun _ _ => Nat.zero_le _, List.Pairwise.nil, by simp, fun x hx => by simp at hx⟩
theorem Mg.len {b : Book} {nx : Nat → Nat} {out : List Ent} (h : Mg b nx out) : out.length = nx 0 + nx 1 + nx 2 + nx 3 := by
  rw [h.perm.length_eq]
  have h0 := h.le 0 (by omega)
  have h1 := h.le 1 (by omega)
  have h2 := h.le 2 (by omega)
  have h3 := h.le 3 (by omega)
  simp only [List.length_append, List.length_take]
  omega
theorem take_grow (l : List Ent) (k : Nat) (h : k < l.length) : l.take (k + 1) = l.take k ++ [l[k]] := List.take_succ_eq_append_getElem h
theorem perm_in1 {A B C D : List Ent} (e : Ent) : (A ++ (B ++ (C ++ D)) ++ [e]).Perm (A ++ [e] ++ (B ++ (C ++ D))) := by
  rw [List.append_assoc A, List.append_assoc A]
  exact List.Perm.append_left _ List.perm_append_comm
theorem Mg.step {b : Book} (hb : BookOk b) {nx : Nat → Nat} {out : List Ent} (h : Mg b nx out) {i : Nat} (hi : i < 4) (hlt : nx i < (b i).length)
    (hmin : ∀ j, j < 4 → j ≠ i → ∀ (hj : nx j < (b j).length), eCnt (b i)[nx i] < eCnt (b j)[nx j] ∨ (eCnt (b i)[nx i] = eCnt (b j)[nx j] ∧ i < j)) :
    Mg b (setNx nx i (nx i + 1)) (out ++ [(b i)[nx i]]) := by
  have hp : ∀ j, j < 4 → ∀ k (hk : k < (b j).length), ePost (b j)[k] = (j : Int) := fun j hj k hk => ((hb j hj).own k hk).1
  have hasc : ∀ j, j < 4 → ∀ x y (hx : x < (b j).length) (hy : y < (b j).length), x < y → eCnt (b j)[x] < eCnt (b j)[y] := fun j hj x y hx hy hxy => List.pairwise_iff_getElem.1 (hb j hj).asc x y hx hy hxy
  have hhead : ∀ j, j < 4 → ∀ k (hk : k < (b j).length), nx j ≤ k → (j ≠ i ∨ nx i < k) → eLt (b i)[nx i] (b j)[k] := fun j hj k hk hle hor => by
    by_cases e : j = i
    · subst e
      have := hasc j hj (nx j) k hlt hk (by omega)
      exact .inl this
    · have h1 := hmin j hj e (by omega)
      have p1 := hp i hi (nx i) hlt
      have p2 := hp j hj k hk
      unfold eLt
      by_cases hk2 : nx j = k
      · subst hk2
        rcases h1 with h1 | ⟨h1, h2⟩
        · exact .inl h1
        · exact .inr ⟨h1, by rw [p1, p2]; omega⟩
      · have := hasc j hj (nx j) k (by omega) hk (by omega)
        left
        rcases h1 with h1 | ⟨h1, h2⟩ <;> omega
  refine ⟨fun j hj => ?_, ?_, ?_, ?_⟩
  · by_cases e : j = i
    · subst e; rw [setNx_same]; exact hlt
    · rw [setNx_other _ _ e]; exact h.le j hj
  · refine List.pairwise_append.2 ⟨h.asc, List.pairwise_singleton _ _, fun x hx y hy => ?_⟩
    have : y = (b i)[nx i] := by simpa using hy
    subst this
    exact h.low x hx i hi (nx i) hlt (Nat.le_refl _)
  · refine (h.perm.append_right _).trans ?_
    have hg := take_grow (b i) (nx i) hlt
    rcases (show i = 0 ∨ i = 1 ∨ i = 2 ∨ i = 3 by omega) with rfl | rfl | rfl | rfl
    · rw [setNx_same, setNx_other _ _ (by omega), setNx_other _ _ (by omega), setNx_other _ _ (by omega), hg]
      exact perm_in1 _
    · rw [setNx_same, setNx_other _ _ (by omega), setNx_other _ _ (by omega), setNx_other _ _ (by omega), hg]
      simp only [List.append_assoc]
      refine List.Perm.append_left _ (List.Perm.append_left _ ?_)
      rw [← List.append_assoc]
      exact List.perm_append_comm
    · rw [setNx_same, setNx_other _ _ (by omega), setNx_other _ _ (by omega), setNx_other _ _ (by omega), hg]
      simp only [List.append_assoc]
      exact List.Perm.append_left _ (List.Perm.append_left _ (List.Perm.append_left _ List.perm_append_comm))
    · rw [setNx_same, setNx_other _ _ (by omega), setNx_other _ _ (by omega), setNx_other _ _ (by omega), hg]
      simp only [List.append_assoc]
      exact List.Perm.refl _
  · intro x hx j hj k hk hle
    have hnx : nx j ≤ k := by
      by_cases e : j = i
      · subst e; rw [setNx_same] at hle; omega
      · rw [setNx_other _ _ e] at hle; exact hle
    rcases List.mem_append.1 hx with hx | hx
    · exact h.low x hx j hj k hk hnx
    · have : x = (b i)[nx i] := by simpa using hx
      subst this
      refine hhead j hj k hk hnx ?_
      by_cases e : j = i
      · subst e; rw [setNx_same] at hle; exact .inr (by omega)
      · exact .inl e
theorem Mg.done {b : Book} {nx : Nat → Nat} {out : List Ent} (h : Mg b nx out) (hall : ∀ i, i < 4 → (b i).length ≤ nx i) : out = allB b := by
  refine allB_unique h.asc (h.perm.trans (List.Perm.trans ?_ (allB_perm b).symm))
  rw [List.take_of_length_le (hall 0 (by omega)), List.take_of_length_le (hall 1 (by omega)), List.take_of_length_le (hall 2 (by omega)), List.take_of_length_le (hall 3 (by omega))]

/-- What the reference finds written since: those with a greater number. -/
def sinceR (b : Book) (seen : Nat → Int) : List Ent := (allB b).filter fun e => decide (seen (ePost e).toNat < eNum e)
theorem drop_filter : ∀ (l : List Ent) (m : Int) (k : Nat), (∀ j (h : j < l.length), eNum l[j] = (j : Int) + k + 1) → l.filter (fun e => decide (m < eNum e)) = l.drop (m - k).toNat
  | [], _, _, _ => by simp
  | x :: l, m, k, h => by
    have h0 := h 0 (by simp)
    simp only [List.getElem_cons_zero] at h0
    have ih := drop_filter l m (k + 1) fun j hj => by
      have := h (j + 1) (by simpa using hj)
      simp only [List.getElem_cons_succ] at this
      rw [this]; omega
    by_cases hm : m < eNum x
    · rw [List.filter_cons_of_pos (by simpa using hm), ih, show (m - ((k + 1 : Nat) : Int)).toNat = 0 by omega, show (m - (k : Int)).toNat = 0 by omega]
      rfl
    · rw [List.filter_cons_of_neg (by simpa using hm), ih, show (m - (k : Int)).toNat = (m - ((k + 1 : Nat) : Int)).toNat + 1 by omega]
      rfl
/-- Both find the same. -/
theorem since_same {b : Book} (hb : BookOk b) (seen : Nat → Int) : sinceR b seen = sinceB b seen := by
  refine srtE_unique (List.Pairwise.sublist List.filter_sublist (sinceB_asc hb _)) (catB_keys hb seen) ?_
  unfold sinceR
  refine ((allB_perm b).filter _).trans ?_
  have e : ∀ i, i < 4 → (b i).filter (fun e => decide (seen (ePost e).toNat < eNum e)) = restB b seen i := fun i hi => by
    have hk := hb i hi
    have e1 : (b i).filter (fun e => decide (seen (ePost e).toNat < eNum e)) = (b i).filter (fun e => decide (seen i < eNum e)) := by
      refine List.filter_congr fun x hx => ?_
      rw [(hk.mem hx).1, Int.toNat_natCast]
    rw [e1, drop_filter _ (seen i) 0 (fun j hj => by have := (hk.own j hj).2.1; omega)]
    unfold restB
    by_cases hs : seen i ≤ ((b i).length : Int)
    · rw [show (seen i - ((0 : Nat) : Int)).toNat = (min (max 0 (seen i)) ((b i).length : Int)).toNat by omega]
    · rw [List.drop_eq_nil_of_le (by omega), List.drop_eq_nil_of_le (by omega)]
  rw [List.filter_append, List.filter_append, List.filter_append, e 0 (by omega), e 1 (by omega), e 2 (by omega), e 3 (by omega)]
  exact List.Perm.refl _
end Go.Proofs.YtdfkaijeppdhaaaGreatDoor
