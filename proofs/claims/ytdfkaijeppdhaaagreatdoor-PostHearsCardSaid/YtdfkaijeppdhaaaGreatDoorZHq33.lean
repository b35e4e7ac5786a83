/- Texts of this claim, laid together: Am, Rb. -/
import Derived.Test.YtdfkaijeppdhaaaGreatDoorZHq02
import Derived.Test.YtdfkaijeppdhaaaGreatDoorZHq32
import Derived.Test.YtdfkaijeppdhaaaGreatDoorZHq06

/- Plain: the order by what is left over is one; who gets what of an estate. -/
namespace Go.Proofs.YtdfkaijeppdhaaaGreatDoor
open Go.RowKit Go.Shelf
def befB (G : List Int) (j i : Nat) : Bool := decide (G.getD i 0 < G.getD j 0) || (decide (G.getD i 0 = G.getD j 0) && decide (j < i))
theorem befB_iff {G : List Int} {j i : Nat} : befB G j i = true ↔ Fd.Bef G j i := by
  unfold befB Fd.Bef
  simp
theorem bef_asym {G : List Int} {j i : Nat} (h : Fd.Bef G j i) : ¬ Fd.Bef G i j := by
  unfold Fd.Bef at *
  omega
theorem bef_total {G : List Int} {j i : Nat} (h : ¬ Fd.Bef G j i) (hne : j ≠ i) : Fd.Bef G i j := by
  unfold Fd.Bef at *
  omega
theorem bef_trans {G : List Int} {i j k : Nat} (h : Fd.Bef G i j) (h' : Fd.Bef G j k) : Fd.Bef G i k := by
  unfold Fd.Bef at *
  omega
theorem orde_eq {G : List Int} : ∀ {l m : List Nat}, l.Pairwise (Fd.Bef G) → m.Pairwise (Fd.Bef G) → l.Perm m → l = m
  | [], m, _, _, hp => (List.nil_perm.1 hp).symm ▸ rfl
  | a :: l, [], _, _, hp => by simpa using hp.length_eq
  | a :: l, b :: m, hl, hm, hp => by
    have h1 := List.pairwise_cons.1 hl
    have h2 := List.pairwise_cons.1 hm
    have hab : a = b := by
      have ha : a ∈ b :: m := hp.mem_iff.1 (by simp)
      have hb : b ∈ a :: l := hp.mem_iff.2 (by simp)
      rcases List.mem_cons.1 ha with e | e
      · exact e
      · rcases List.mem_cons.1 hb with e' | e'
        · exact e'.symm
        · exact absurd (h1.1 _ e') (bef_asym (h2.1 _ e))
    subst hab
    rw [orde_eq h1.2 h2.2 (List.Perm.cons_inv hp)]
/-- Put into an order. -/
def insN (G : List Int) (i : Nat) : List Nat → List Nat
  | [] => [i]
  | x :: r => if befB G i x then i :: x :: r else x :: insN G i r
theorem insN_perm (G : List Int) (i : Nat) : ∀ l, (insN G i l).Perm (i :: l)
  | [] => .refl _
  | x :: r => by
    unfold insN
    split
    · exact .refl _
    · exact ((insN_perm G i r).cons x).trans (.swap i x r)
theorem insN_asc {G : List Int} {i : Nat} : ∀ {l : List Nat}, l.Pairwise (Fd.Bef G) → i ∉ l → (insN G i l).Pairwise (Fd.Bef G)
  | [], _, _ => by simp [insN]
  | x :: r, h, hi => by
    have h1 := List.pairwise_cons.1 h
    unfold insN
    split
    · rename_i hb
      have hb := befB_iff.1 hb
      exact List.pairwise_cons.2 ⟨fun y hy => (List.mem_cons.1 hy).elim (fun e => e ▸ hb) (fun e => bef_trans hb (h1.1 y e)), h⟩
    · rename_i hb
      have hb : Fd.Bef G x i := bef_total (fun h => hb (befB_iff.2 h)) (fun e => hi (e ▸ List.mem_cons_self))
      exact List.pairwise_cons.2 ⟨fun y hy => (List.mem_cons.1 ((insN_perm G i r).mem_iff.1 hy)).elim (fun e => e ▸ hb) (h1.1 y), insN_asc h1.2 fun h => hi (List.mem_cons_of_mem _ h)⟩
def srtN (G : List Int) : List Nat → List Nat
  | [] => []
  | i :: r => insN G i (srtN G r)
theorem srtN_perm (G : List Int) : ∀ l, (srtN G l).Perm l
  | [] => .refl _
  | i :: r => (insN_perm G i _).trans ((srtN_perm G r).cons i)
theorem srtN_asc {G : List Int} : ∀ {l : List Nat}, l.Nodup → (srtN G l).Pairwise (Fd.Bef G)
  | [], _ => List.Pairwise.nil
  | i :: r, h => insN_asc (srtN_asc (List.nodup_cons.1 h).2) fun hm => (List.nodup_cons.1 h).1 ((srtN_perm G r).mem_iff.1 hm)
/-- The order. -/
def ordN (G : List Int) : List Nat := srtN G (List.range G.length)
theorem ordN_orde (G : List Int) : Fd.Orde G (ordN G) := ⟨srtN_perm G _, srtN_asc List.nodup_range⟩
theorem ordN_is {G : List Int} {L : List Nat} (h : Fd.Orde G L) : L = ordN G := orde_eq h.sorted (ordN_orde G).sorted (h.perm.trans (ordN_orde G).perm.symm)
/-- What Whole gives, and its error. -/
def wholeL (c : List Int) (n : Int) : List Int := if Fd.shareE c n 4 = 0 then Fd.incL (Fd.qsL (Fd.shareL c n 4)) ((ordN (Fd.gL c n 4)).take (Fd.whN n (Fd.shareL c n 4))) else []
theorem whole_of {c : List Int} {n : Int} {w : World} {e : Ending} {w' : World} (h : Fd.GivesH c n 4 w e w') : ∃ ov, e = .returned (.tuple #[ov, .int .i64 (Fd.shareE c n 4)]) ∧ Fd.IntsAt w' ov (wholeL c n) ∧ Below w.heap.size w w' := by
  obtain ⟨ov, res, h1, h2, h3, h4, h5⟩ := h
  refine ⟨ov, h1, ?_, h3⟩
  have : res = wholeL c n := by
    unfold wholeL
    split
    · rename_i h0
      obtain ⟨L, hL, hr⟩ := h5 h0
      rw [hr, ordN_is hL]
    · rename_i h0; exact h4 h0
  rw [← this]; exact h2
end Go.Proofs.YtdfkaijeppdhaaaGreatDoor

/- Plain: the entries in order, as the reference takes them: of what is left the least one is next (Post). -/
namespace Go.Proofs.YtdfkaijeppdhaaaGreatDoor
open Go
def setNx (nx : Nat → Nat) (i k : Nat) : Nat → Nat := fun j => if j = i then k else nx j
theorem setNx_same (nx : Nat → Nat) (i k : Nat) : setNx nx i k i = k := by simp [setNx]
theorem setNx_other (nx : Nat → Nat) {i j : Nat} (k : Nat) (h : j ≠ i) : setNx nx i k j = nx j := by simp [setNx, h]
/-- What has been taken. -/
structure Mg (b : Book) (nx : Nat → Nat) (out : List Ent) : Prop where
  le : ∀ i, i < 4 → nx i ≤ (b i).length
  asc : Asc out
  perm : out.Perm ((b 0).take (nx 0) ++ ((b 1).take (nx 1) ++ ((b 2).take (nx 2) ++ (b 3).take (nx 3))))
  low : ∀ x ∈ out, ∀ i, i < 4 → ∀ j (h : j < (b i).length), nx i ≤ j → eLt x (b i)[j]
theorem Mg.start (b : Book) : Mg b (fun _ => 0) [] := ⟨fun _ _ => Nat.zero_le _, List.Pairwise.nil, by simp, fun x hx => by simp at hx⟩
theorem Mg.len {b : Book} {nx : Nat → Nat} {out : List Ent} (h : Mg b nx out) : out.length = nx 0 + nx 1 + nx 2 + nx 3 := by
  rw [h.perm.length_eq]
  have h0 := h.le 0 (by omega)
  have h1 := h.le 1 (by omega)
  have h2 := h.le 2 (by omega)
  have h3 := h.le 3 (by omega)
  simp only [List.length_append, List.length_take]
  omega
theorem take_grow (l : List Ent) (k : Nat) (h : k < l.length) : l.take (k + 1) = l.take k ++ [l[k]] := List.take_succ_eq_append_getElem h
theorem perm_in1 {A B C D : List Ent} (e : Ent) : (A ++ (B ++ (C ++ D)) ++ [e]).Perm (A ++ [e] ++ (B ++ (C ++ D))) := by
  rw [List.append_assoc A, List.append_assoc A]
  exact List.Perm.append_left _ List.perm_append_comm
theorem Mg.step {b : Book} (hb : BookOk b) {nx : Nat → Nat} {out : List Ent} (h : Mg b nx out) {i : Nat} (hi : i < 4) (hlt : nx i < (b i).length)
    (hmin : ∀ j, j < 4 → j ≠ i → ∀ (hj : nx j < (b j).length), eCnt (b i)[nx i] < eCnt (b j)[nx j] ∨ (eCnt (b i)[nx i] = eCnt (b j)[nx j] ∧ i < j)) :
    Mg b (setNx nx i (nx i + 1)) (out ++ [(b i)[nx i]]) := by
  have hp : ∀ j, j < 4 → ∀ k (hk : k < (b j).length), ePost (b j)[k] = (j : Int) := fun j hj k hk => ((hb j hj).own k hk).1
  have hasc : ∀ j, j < 4 → ∀ x y (hx : x < (b j).length) (hy : y < (b j).length), x < y → eCnt (b j)[x] < eCnt (b j)[y] := fun j hj x y hx hy hxy => List.pairwise_iff_getElem.1 (hb j hj).asc x y hx hy hxy
  have hhead : ∀ j, j < 4 → ∀ k (hk : k < (b j).length), nx j ≤ k → (j ≠ i ∨ nx i < k) → eLt (b i)[nx i] (b j)[k] := fun j hj k hk hle hor => by
    by_cases e : j = i
    · subst e
      have := hasc j hj (nx j) k hlt hk (by omega)
      exact .inl this
    · have h1 := hmin j hj e (by omega)
      have p1 := hp i hi (nx i) hlt
      have p2 := hp j hj k hk
      unfold eLt
      by_cases hk2 : nx j = k
      · subst hk2
        rcases h1 with h1 | ⟨h1, h2⟩
        · exact .inl h1
        · exact .inr ⟨h1, by rw [p1, p2]; omega⟩
      · have := hasc j hj (nx j) k (by omega) hk (by omega)
        left
        rcases h1 with h1 | ⟨h1, h2⟩ <;> omega
  refine ⟨fun j hj => ?_, ?_, ?_, ?_⟩
  · by_cases e : j = i
    · subst e; rw [setNx_same]; exact hlt
    · rw [setNx_other _ _ e]; exact h.le j hj
  · refine List.pairwise_append.2 ⟨h.asc, List.pairwise_singleton _ _, fun x hx y hy => ?_⟩
    have : y = (b i)[nx i] := by simpa using hy
    subst this
    exact h.low x hx i hi (nx i) hlt (Nat.le_refl _)
  · refine (h.perm.append_right _).trans ?_
    have hg := take_grow (b i) (nx i) hlt
    rcases (show i = 0 ∨ i = 1 ∨ i = 2 ∨ i = 3 by omega) with rfl | rfl | rfl | rfl
    · rw [setNx_same, setNx_other _ _ (by omega), setNx_other _ _ (by omega), setNx_other _ _ (by omega), hg]
      exact perm_in1 _
    · rw [setNx_same, setNx_other _ _ (by omega), setNx_other _ _ (by omega), setNx_other _ _ (by omega), hg]
      simp only [List.append_assoc]
      refine List.Perm.append_left _ (List.Perm.append_left _ ?_)
      rw [← List.append_assoc]
      exact List.perm_append_comm
    · rw [setNx_same, setNx_other _ _ (by omega), setNx_other _ _ (by omega), setNx_other _ _ (by omega), hg]
      simp only [List.append_assoc]
      exact List.Perm.append_left _ (List.Perm.append_left _ (List.Perm.append_left _ List.perm_append_comm))
    · rw [setNx_same, setNx_other _ _ (by omega), setNx_other _ _ (by omega), setNx_other _ _ (by omega), hg]
      simp only [List.append_assoc]
      exact List.Perm.refl _
  · intro x hx j hj k hk hle
    have hnx : nx j ≤ k := by
      by_cases e : j = i
      · subst e; rw [setNx_same] at hle; omega
      · rw [setNx_other _ _ e] at hle; exact hle
    rcases List.mem_append.1 hx with hx | hx
    · exact h.low x hx j hj k hk hnx
    · have : x = (b i)[nx i] := by simpa using hx
      subst this
      refine hhead j hj k hk hnx ?_
      by_cases e : j = i
      · subst e; rw [setNx_same] at hle; exact .inr (by omega)
      · exact .inl e
theorem Mg.done {b : Book} {nx : Nat → Nat} {out : List Ent} (h : Mg b nx out) (hall : ∀ i, i < 4 → (b i).length ≤ nx i) : out = allB b := by
  refine allB_unique h.asc (h.perm.trans (List.Perm.trans ?_ (allB_perm b).symm))
  rw [List.take_of_length_le (hall 0 (by omega)), List.take_of_length_le (hall 1 (by omega)), List.take_of_length_le (hall 2 (by omega)), List.take_of_length_le (hall 3 (by omega))]

end Go.Proofs.YtdfkaijeppdhaaaGreatDoor
