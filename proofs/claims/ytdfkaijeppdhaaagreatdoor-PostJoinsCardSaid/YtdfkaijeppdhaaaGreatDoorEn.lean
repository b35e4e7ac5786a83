/- Plain: entries, their order, sorted lists of entries. -/
namespace Go.Proofs.YtdfkaijeppdhaaaGreatDoor

/-- An entry: post, number, count, line. -/
abbrev Ent := Int × Int × Int × ByteArray
def ePost (e : Ent) : Int := e.1
def eNum (e : Ent) : Int := e.2.1
def eCnt (e : Ent) : Int := e.2.2.1
def eLine (e : Ent) : ByteArray := e.2.2.2

/-- Comes before: the count, then the post. -/
def eLt (a b : Ent) : Prop := eCnt a < eCnt b ∨ (eCnt a = eCnt b ∧ ePost a < ePost b)
def eLe (a b : Ent) : Prop := eCnt a < eCnt b ∨ (eCnt a = eCnt b ∧ ePost a ≤ ePost b)
instance (a b : Ent) : Decidable (eLt a b) := inferInstanceAs (Decidable (_ ∨ _))
instance (a b : Ent) : Decidable (eLe a b) := inferInstanceAs (Decidable (_ ∨ _))
/-- The answer of order. -/
def eCmp (a b : Ent) : Int := if eLt a b then -1 else if eLt b a then 1 else 0
theorem eLt_trans {a b c : Ent} (h : eLt a b) (k : eLt b c) : eLt a c := by unfold eLt at *; omega
theorem eLt_irrefl (a : Ent) : ¬ eLt a a := by unfold eLt; omega
theorem eLt_asymm {a b : Ent} (h : eLt a b) : ¬ eLt b a := by unfold eLt at *; omega
theorem eLt_or (a b : Ent) : eLt a b ∨ eLt b a ∨ (eCnt a = eCnt b ∧ ePost a = ePost b) := by unfold eLt; omega
theorem eLe_iff (a b : Ent) : eLe a b ↔ ¬ eLt b a := by unfold eLe eLt; omega

/-- Put an entry into its place. -/
def insE (e : Ent) : List Ent → List Ent
  | [] => [e]
  | x :: r => if eLt e x then e :: x :: r else x :: insE e r
def srtE : List Ent → List Ent
  | [] => []
  | e :: r => insE e (srtE r)
def Asc (l : List Ent) : Prop := l.Pairwise eLt
theorem insE_perm (e : Ent) : ∀ l, (insE e l).Perm (e :: l)
  | [] => .refl _
  | x :: r => by
    unfold insE
    split
    · exact .refl _
    · exact ((insE_perm e r).cons x).trans (.swap _ _ _)
theorem srtE_perm : ∀ l, (srtE l).Perm l
  | [] => .refl _
  | e :: r => (insE_perm e _).trans ((srtE_perm r).cons e)
theorem srtE_len (l : List Ent) : (srtE l).length = l.length := (srtE_perm l).length_eq
theorem srtE_mem {l : List Ent} {e : Ent} : e ∈ srtE l ↔ e ∈ l := (srtE_perm l).mem_iff
/-- No two entries of one count and post. -/
def Keys (l : List Ent) : Prop := l.Pairwise fun a b => ¬ (eCnt a = eCnt b ∧ ePost a = ePost b)
theorem insE_asc {e : Ent} : ∀ {l : List Ent}, Asc l → (∀ x ∈ l, ¬ (eCnt e = eCnt x ∧ ePost e = ePost x)) → Asc (insE e l)
  | [], _, _ => by simp [insE, Asc]
  | x :: r, h, hk => by
    unfold insE
    have hx := List.pairwise_cons.1 h
    split
    · rename_i hlt
      exact List.pairwise_cons.2 ⟨fun y hy => by
        rcases List.mem_cons.1 hy with rfl | hy
        · exact hlt
        · exact eLt_trans hlt (hx.1 y hy), h⟩
    · rename_i hnlt
      refine List.pairwise_cons.2 ⟨fun y hy => ?_, insE_asc hx.2 (fun z hz => hk z (by simp [hz]))⟩
      rcases List.mem_cons.1 ((insE_perm e r).mem_iff.1 hy) with rfl | hy
      · rcases eLt_or y x with h1 | h1 | h1
        · exact absurd h1 hnlt
        · exact h1
        · exact absurd h1 (hk x (by simp))
      · exact hx.1 y hy
theorem srtE_asc : ∀ {l : List Ent}, Keys l → Asc (srtE l)
  | [], _ => List.Pairwise.nil
  | e :: r, h => by
    have hx := List.pairwise_cons.1 h
    exact insE_asc (srtE_asc hx.2) (fun x hx2 => hx.1 x (srtE_mem.1 hx2))
/-- Two ascending lists of the same entries are one. -/
theorem asc_unique : ∀ {l m : List Ent}, Asc l → Asc m → l.Perm m → l = m
  | [], m, _, _, hp => (List.nil_perm.1 hp).symm ▸ rfl
  | a :: l, [], _, _, hp => by simpa using hp.length_eq
  | a :: l, b :: m, hl, hm, hp => by
    have h1 := List.pairwise_cons.1 hl
    have h2 := List.pairwise_cons.1 hm
    have hab : a = b := by
      rcases List.mem_cons.1 (hp.mem_iff.1 (List.mem_cons_self)) with h | h
      · exact h
      · rcases List.mem_cons.1 (hp.mem_iff.2 (List.mem_cons_self (a := b))) with k | k
        · exact k.symm
        · exact absurd (h2.1 a h) (eLt_asymm (h1.1 b k))
    subst hab
    rw [asc_unique h1.2 h2.2 (List.Perm.cons_inv hp)]
theorem srtE_unique {l m : List Ent} (hm : Asc m) (hk : Keys l) (hp : m.Perm l) : m = srtE l := asc_unique hm (srtE_asc hk) (hp.trans (srtE_perm l).symm)

/-! ### Books -/
abbrev Book := Nat → List Ent
def empB : Book := fun _ => []
def setB (b : Book) (i : Nat) (l : List Ent) : Book := fun j => if j = i then l else b j
theorem setB_same (b : Book) (i : Nat) (l : List Ent) : setB b i l i = l := by simp [setB]
theorem setB_other (b : Book) {i j : Nat} (l : List Ent) (h : j ≠ i) : setB b i l j = b j := by simp [setB, h]
/-- A text of printable bytes, at most 60. -/
def lineB (s : ByteArray) : Bool := decide (s.size ≤ 60) && s.data.toList.all fun c => decide (32 ≤ c.toNat) && decide (c.toNat ≤ 126)
structure ListOk (i : Nat) (l : List Ent) : Prop where
  len : l.length ≤ 60
  own : ∀ j (h : j < l.length), ePost l[j] = i ∧ eNum l[j] = j + 1 ∧ 1 ≤ eCnt l[j] ∧ eCnt l[j] ≤ 1000000 ∧ lineB (eLine l[j]) = true
  asc : l.Pairwise fun a b => eCnt a < eCnt b
/-- A valid book. -/
def BookOk (b : Book) : Prop := ∀ i, i < 4 → ListOk i (b i)
theorem listOk_nil (i : Nat) : ListOk i [] := ⟨by simp, fun j h => by simp at h, List.Pairwise.nil⟩
theorem empB_ok : BookOk empB := fun i _ => listOk_nil i
theorem ListOk.take {i : Nat} {l : List Ent} (h : ListOk i l) (k : Nat) : ListOk i (l.take k) :=
  ⟨by have := h.len; rw [List.length_take]; omega, fun j hj => by
    have hj2 : j < l.length := by rw [List.length_take] at hj; omega
    rw [List.getElem_take]; exact h.own j hj2, h.asc.sublist (List.take_sublist k l)⟩
theorem ListOk.front {i : Nat} {l m : List Ent} (h : ListOk i l) (hp : m <+: l) : ListOk i m := by
  rw [List.prefix_iff_eq_take.1 hp]; exact h.take _

/-- All entries behind those that were seen. -/
def restB (b : Book) (seen : Nat → Int) (i : Nat) : List Ent := (b i).drop (min (max 0 (seen i)) (b i).length).toNat
def catB (b : Book) (seen : Nat → Int) : List Ent := restB b seen 0 ++ (restB b seen 1 ++ (restB b seen 2 ++ restB b seen 3))
def sinceB (b : Book) (seen : Nat → Int) : List Ent := srtE (catB b seen)
def allB (b : Book) : List Ent := sinceB b fun _ => 0
theorem ListOk.mem {i : Nat} {l : List Ent} (h : ListOk i l) {e : Ent} (he : e ∈ l) : ePost e = i ∧ 1 ≤ eCnt e ∧ eCnt e ≤ 1000000 ∧ lineB (eLine e) = true := by
  obtain ⟨j, hj, rfl⟩ := List.getElem_of_mem he
  obtain ⟨h1, _, h3, h4, h5⟩ := h.own j hj
  exact ⟨h1, h3, h4, h5⟩
theorem restB_mem {b : Book} {seen : Nat → Int} {i : Nat} {e : Ent} (h : e ∈ restB b seen i) : e ∈ b i := List.mem_of_mem_drop h
theorem restB_keys {b : Book} {seen : Nat → Int} {i : Nat} (h : ListOk i (b i)) : Keys (restB b seen i) :=
  (h.asc.sublist (List.drop_sublist _ _)).imp fun hlt hk => by omega
theorem keys_append {l m : List Ent} (h1 : Keys l) (h2 : Keys m) (h3 : ∀ a ∈ l, ∀ c ∈ m, ePost a ≠ ePost c) : Keys (l ++ m) :=
  List.pairwise_append.2 ⟨h1, h2, fun a ha c hc hk => h3 a ha c hc hk.2⟩
theorem catB_keys {b : Book} (hb : BookOk b) (seen : Nat → Int) : Keys (catB b seen) := by
  have hm : ∀ i, i < 4 → ∀ e ∈ restB b seen i, ePost e = i := fun i hi e he => ((hb i hi).mem (restB_mem he)).1
  refine keys_append (restB_keys (hb 0 (by omega))) (keys_append (restB_keys (hb 1 (by omega))) (keys_append (restB_keys (hb 2 (by omega))) (restB_keys (hb 3 (by omega))) ?_) ?_) ?_
  · intro a ha c hc
    rw [hm 2 (by omega) a ha, hm 3 (by omega) c hc]; omega
  · intro a ha c hc
    rw [hm 1 (by omega) a ha]
    rcases List.mem_append.1 hc with hc | hc
    · rw [hm 2 (by omega) c hc]; omega
    · rw [hm 3 (by omega) c hc]; omega
  · intro a ha c hc
    rw [hm 0 (by omega) a ha]
    rcases List.mem_append.1 hc with hc | hc
    · rw [hm 1 (by omega) c hc]; omega
    · rcases List.mem_append.1 hc with hc | hc
      · rw [hm 2 (by omega) c hc]; omega
      · rw [hm 3 (by omega) c hc]; omega
theorem sinceB_asc {b : Book} (hb : BookOk b) (seen : Nat → Int) : Asc (sinceB b seen) := srtE_asc (catB_keys hb seen)

/-- The greatest count. -/
def lastC (l : List Ent) : Int := match l.getLast? with
  | none => 0
  | some e => eCnt e
def cntB (b : Book) : Int := max (max (max (max 0 (lastC (b 0))) (lastC (b 1))) (lastC (b 2))) (lastC (b 3))

/-- Joining: the longer list of each post, if the shorter one begins it. -/
def longL (l m : List Ent) : List Ent := if m.length < l.length then l else m
def fitL (l m : List Ent) : Bool := decide (l <+: m) || decide (m <+: l)
def joinB (b o : Book) : Option Book := if (fitL (b 0) (o 0) && fitL (b 1) (o 1) && fitL (b 2) (o 2) && fitL (b 3) (o 3)) = true then some (fun i => longL (b i) (o i)) else none
end Go.Proofs.YtdfkaijeppdhaaaGreatDoor
