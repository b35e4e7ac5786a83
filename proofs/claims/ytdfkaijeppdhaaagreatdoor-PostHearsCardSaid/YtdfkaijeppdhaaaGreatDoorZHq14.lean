/- Texts of this claim, laid together: Lb. -/
import Derived.Test.YtdfkaijeppdhaaaGreatDoorZHq13

/- Posts together, told by where they lie, their numbers and their books: what the laws' walks need of every method (Post). -/
namespace Go.Proofs.YtdfkaijeppdhaaaGreatDoor
open Go.RowKit Go.Shelf
def isPostT (t : Nat) : Prop := t = 81 ∨ t = 96 ∨ t = 43
/-- Of what was there only blocks of posts, from base on, may have turned. -/
structure Kin (base : Nat) (w w' : World) : Prop where
  os : w'.os = w.os
  tape : w'.tape = w.tape
  output : w'.output = w.output
  size : w.heap.size ≤ w'.heap.size
  block : ∀ k, k < w.heap.size → w'.heap[k]? = w.heap[k]? ∨ base ≤ k ∧ ∃ cs t fr, w.heap[k]? = some (.cells cs t fr) ∧ isPostT t
theorem Kin.refl (base : Nat) (w : World) : Kin base w w := ⟨rfl, rfl, rfl, Nat.le_refl _, fun _ _ => .inl rfl⟩
theorem Kin.trans {base : Nat} {a b c : World} (h : Kin base a b) (k : Kin base b c) : Kin base a c :=
  ⟨k.os.trans h.os, k.tape.trans h.tape, k.output.trans h.output, Nat.le_trans h.size k.size, fun i hi => by
    rcases h.block i hi with h1 | h1
    · rcases k.block i (Nat.lt_of_lt_of_le hi h.size) with h2 | ⟨h2, cs, t, fr, h3, h4⟩
      · exact .inl (h2.trans h1)
      · exact .inr ⟨h2, cs, t, fr, h1.symm.trans h3, h4⟩
    · exact .inr h1⟩
theorem Kin.of_below {base : Nat} {w w' : World} (h : Below w.heap.size w w') : Kin base w w' := ⟨h.os, h.tape, h.output, h.size, fun k hk => .inl (h.block k hk)⟩
theorem Kin.of_off {base : Nat} {w w' : World} {P n : Nat} {F : List Nat} {b : Book} (h : PostAt w P F n b) (hF : ∀ k ∈ F, base ≤ k) (ho : Off F w w') : Kin base w w' :=
  ⟨ho.os, ho.tape, ho.output, ho.size, fun k hk => by
    by_cases hm : k ∈ F
    · obtain ⟨cs, t, fr, h1, h2⟩ := h.types hm
      exact .inr ⟨hF k hm, cs, t, fr, h1, h2⟩
    · exact .inl (ho.block k hk hm)⟩
theorem Kin.below {base : Nat} {w w' : World} (h : Kin base w w') (hb : base ≤ w.heap.size) : Below base w w' :=
  ⟨h.os, h.tape, h.output, h.size, fun k hk => (h.block k (Nat.lt_of_lt_of_le hk hb)).resolve_right fun h1 => by omega⟩
/-- A block that is no post's stays. -/
theorem Kin.keep {base : Nat} {w w' : World} (h : Kin base w w') {k : Nat} {cs : Array Value} {t : TypeId} {fr : Nat × Nat} (hk : w.heap[k]? = some (.cells cs t fr)) (ht : ¬ isPostT t) : w'.heap[k]? = some (.cells cs t fr) := by
  rcases h.block k (Array.getElem?_eq_some_iff.1 hk).1 with h1 | ⟨_, cs', t', fr', h1, h2⟩
  · exact h1.trans hk
  · rw [hk] at h1
    simp only [Option.some.injEq, Obj.cells.injEq] at h1
    obtain ⟨_, rfl, _⟩ := h1
    exact absurd h2 ht
theorem Kin.own {base base' : Nat} {w w' : World} (h : Kin base w w') {e : TypeId} {size : Nat} {v : Value} {n : Nat} {xs : List Value} (hr : w.ownsRow base' e size v n xs) (he : ¬ isPostT e) : w'.ownsRow base' e size v n xs :=
  own_keep hr fun k hk => by
    obtain ⟨cur, h1⟩ := own_type hr hk
    exact (h.keep h1 he).trans h1.symm

def upN {α : Type} (f : Nat → α) (i : Nat) (v : α) : Nat → α := fun j => if j = i then v else f j
theorem upN_same {α : Type} (f : Nat → α) (i : Nat) (v : α) : upN f i v i = v := by simp [upN]
theorem upN_other {α : Type} (f : Nat → α) {i j : Nat} (v : α) (h : j ≠ i) : upN f i v j = f j := by simp [upN, h]
/-- Posts together: in blocks P, with numbers n and books b, on blocks from base on. -/
def PsAt (base : Nat) (w : World) (m : Nat) (P n : Nat → Nat) (b : Nat → Book) : Prop :=
  ∃ F : Nat → List Nat, Posts w m (fun i => ⟨P i, F i, n i, b i⟩) ∧ (∀ i, i < m → ∀ g ∈ F i, base ≤ g) ∧ (∀ i, i < m → BookOk (b i) ∧ n i < 4) ∧ base ≤ w.heap.size
theorem PsAt.vars {base : Nat} {w : World} {m : Nat} {P n : Nat → Nat} {b : Nat → Book} (h : PsAt base w m P n b) : Vars w := by obtain ⟨F, h1, _⟩ := h; exact h1.vars
theorem PsAt.ok {base : Nat} {w : World} {m : Nat} {P n : Nat → Nat} {b : Nat → Book} (h : PsAt base w m P n b) {i : Nat} (hi : i < m) : BookOk (b i) := by obtain ⟨F, _, _, h1, _⟩ := h; exact (h1 i hi).1
theorem PsAt.num {base : Nat} {w : World} {m : Nat} {P n : Nat → Nat} {b : Nat → Book} (h : PsAt base w m P n b) {i : Nat} (hi : i < m) : n i < 4 := by obtain ⟨F, _, _, h1, _⟩ := h; exact (h1 i hi).2
theorem PsAt.size {base : Nat} {w : World} {m : Nat} {P n : Nat → Nat} {b : Nat → Book} (h : PsAt base w m P n b) : base ≤ w.heap.size := by obtain ⟨F, _, _, _, h1⟩ := h; exact h1
theorem PsAt.post {base : Nat} {w : World} {m : Nat} {P n : Nat → Nat} {b : Nat → Book} (h : PsAt base w m P n b) {i : Nat} (hi : i < m) : ∃ F, PostAt w (P i) F (n i) (b i) ∧ (∀ k ∈ F, ¬ isVar k) ∧ ∀ k ∈ F, base ≤ k := by
  obtain ⟨F, h1, h2, _⟩ := h
  exact ⟨F i, h1.post i hi, h1.free i hi, h2 i hi⟩
theorem PsAt.nil {w : World} (hv : Vars w) (P n : Nat → Nat) (b : Nat → Book) : PsAt w.heap.size w 0 P n b := ⟨fun _ => [], Posts.nil hv _, fun i h => by omega, fun i h => by omega, Nat.le_refl _⟩
theorem PsAt.low {base base' : Nat} {w : World} {m : Nat} {P n : Nat → Nat} {b : Nat → Book} (h : PsAt base w m P n b) (hb : base' ≤ base) : PsAt base' w m P n b := by
  obtain ⟨F, h1, h2, h3, h4⟩ := h
  exact ⟨F, h1, fun i hi g hg => Nat.le_trans hb (h2 i hi g hg), h3, Nat.le_trans hb h4⟩
theorem PsAt.below {base : Nat} {w w' : World} {m : Nat} {P n : Nat → Nat} {b : Nat → Book} (h : PsAt base w m P n b) (hb : Below w.heap.size w w') : PsAt base w' m P n b := by
  obtain ⟨F, h1, h2, h3, h4⟩ := h
  exact ⟨F, h1.below hb, h2, h3, Nat.le_trans h4 hb.size⟩
theorem PsAt.drewN {base : Nat} {w : World} {m : Nat} {P n : Nat → Nat} {b : Nat → Book} (h : PsAt base w m P n b) (k : Nat) : PsAt base (w.drewN k) m P n b := h.below (belowD (Below.refl _ _) k)
theorem PsAt.congr {base : Nat} {w : World} {m : Nat} {P n P' n' : Nat → Nat} {b b' : Nat → Book} (h : PsAt base w m P n b) (hP : ∀ i, i < m → P i = P' i ∧ n i = n' i ∧ b i = b' i) : PsAt base w m P' n' b' := by
  obtain ⟨F, h1, h2, h3, h4⟩ := h
  refine ⟨F, ⟨h1.vars, fun i hi => ?_, h1.apart, h1.free⟩, h2, fun i hi => ?_, h4⟩
  · have := h1.post i hi
    obtain ⟨e1, e2, e3⟩ := hP i hi
    simp only [e1, e2, e3] at this
    exact this
  · have := h3 i hi
    obtain ⟨e1, e2, e3⟩ := hP i hi
    rw [e2, e3] at this
    exact this
theorem PsAt.pick {base : Nat} {w : World} {m r : Nat} {P n : Nat → Nat} {b : Nat → Book} (h : PsAt base w m P n b) (f : Nat → Nat) (hf : ∀ i, i < r → f i < m) (hi : ∀ i j, i < r → j < r → i ≠ j → f i ≠ f j) : PsAt base w r (fun i => P (f i)) (fun i => n (f i)) (fun i => b (f i)) := by
  obtain ⟨F, h1, h2, h3, h4⟩ := h
  exact ⟨fun i => F (f i), h1.pick f hf hi, fun i hr => h2 _ (hf i hr), fun i hr => h3 _ (hf i hr), h4⟩
theorem PsAt.first {base : Nat} {w : World} {m r : Nat} {P n : Nat → Nat} {b : Nat → Book} (h : PsAt base w m P n b) (hr : r ≤ m) : PsAt base w r P n b := h.pick (fun i => i) (fun i hi => by omega) (fun i j _ _ h => h)
theorem PsAt.turn {base : Nat} {w w' : World} {m : Nat} {P n : Nat → Nat} {b : Nat → Book} {F : Nat → List Nat} (h1 : Posts w m (fun i => ⟨P i, F i, n i, b i⟩)) (h2 : ∀ i, i < m → ∀ g ∈ F i, base ≤ g) (h3 : ∀ i, i < m → BookOk (b i) ∧ n i < 4) (h4 : base ≤ w.heap.size)
    {i : Nat} (hi : i < m) {c : Book} (hc : BookOk c) {F' : List Nat} (k1 : PostAt w' (P i) F' (n i) c) (k2 : NewOr w (F i) F') (k3 : Off (F i) w w') : PsAt base w' m P n (upN b i c) ∧ Kin base w w' := by
  have ht := h1.turn hi (p := ⟨P i, F', n i, c⟩) k1 k2 k3
  refine ⟨⟨upN F i F', ?_, fun j hj g hg => ?_, fun j hj => ?_, Nat.le_trans h4 k3.size⟩, Kin.of_off (h1.post i hi) (h2 i hi) k3⟩
  · refine ⟨ht.vars, fun j hj => ?_, fun a c' ha hc' hac k hk => ?_, fun j hj k hk => ?_⟩
    · have := ht.post j hj
      by_cases e : j = i
      · subst e
        rw [setS_same] at this
        simp only [upN_same]
        exact this
      · rw [setS_other _ _ e] at this
        simp only [upN_other _ _ e]
        exact this
    · have hF : ∀ j, (setS (fun i => (⟨P i, F i, n i, b i⟩ : Pst)) i ⟨P i, F', n i, c⟩ j).F = upN F i F' j := fun j => by
        unfold setS upN; split <;> rfl
      have := ht.apart a c' ha hc' hac k (by rw [hF]; exact hk)
      rw [hF] at this
      exact this
    · have hF : ∀ j, (setS (fun i => (⟨P i, F i, n i, b i⟩ : Pst)) i ⟨P i, F', n i, c⟩ j).F = upN F i F' j := fun j => by
        unfold setS upN; split <;> rfl
      exact ht.free j hj k (by rw [hF]; exact hk)
  · by_cases e : j = i
    · subst e
      rw [upN_same] at hg
      rcases k2 g hg with h5 | h5
      · exact h2 j hj g h5
      · exact Nat.le_trans h4 h5
    · rw [upN_other _ _ e] at hg
      exact h2 j hj g hg
  · by_cases e : j = i
    · subst e
      rw [upN_same]
      exact ⟨hc, (h3 j hj).2⟩
    · rw [upN_other _ _ e]
      exact h3 j hj
theorem PsAt.grow {base : Nat} {w w' : World} {m : Nat} {P n : Nat → Nat} {b : Nat → Book} (h : PsAt base w m P n b) {P' n' : Nat} {F' : List Nat} {c : Book} (hp : PostAt w' P' F' n' c) (hF : NewOr w [] F') (hb : Below w.heap.size w w') (hc : BookOk c) (hn : n' < 4) : PsAt base w' (m + 1) (upN P m P') (upN n m n') (upN b m c) := by
  obtain ⟨F, h1, h2, h3, h4⟩ := h
  have ht := h1.grow (p := ⟨P', F', n', c⟩) hp hF hb
  have hE : ∀ j, setS (fun i => (⟨P i, F i, n i, b i⟩ : Pst)) m ⟨P', F', n', c⟩ j = ⟨upN P m P' j, upN F m F' j, upN n m n' j, upN b m c j⟩ := fun j => by
    unfold setS upN; split <;> rfl
  refine ⟨upN F m F', ⟨ht.vars, fun j hj => ?_, fun a c' ha hc' hac k hk => ?_, fun j hj k hk => ?_⟩, fun j hj g hg => ?_, fun j hj => ?_, Nat.le_trans h4 hb.size⟩
  · have := ht.post j hj
    rw [hE] at this
    exact this
  · have := ht.apart a c' ha hc' hac k (by rw [hE]; exact hk)
    rw [hE] at this
    exact this
  · exact ht.free j hj k (by rw [hE]; exact hk)
  · by_cases e : j = m
    · subst e
      rw [upN_same] at hg
      have := (hF g hg).resolve_left (by simp)
      omega
    · rw [upN_other _ _ e] at hg
      exact h2 j (by omega) g hg
  · by_cases e : j = m
    · subst e
      rw [upN_same, upN_same]
      exact ⟨hc, hn⟩
    · rw [upN_other _ _ e, upN_other _ _ e]
      exact h3 j (by omega)
theorem PsAt.kept {base : Nat} {w w' : World} {m : Nat} {P n : Nat → Nat} {b : Nat → Book} (h : PsAt base w m P n b) (hb : Below w.heap.size w w') : PsAt base w' m P n b ∧ Kin base w w' := ⟨h.below hb, Kin.of_below hb⟩
theorem PsAt.grown {base base' : Nat} {w w' : World} {m : Nat} {P n : Nat → Nat} {b : Nat → Book} (h : PsAt base w m P n b) {e : TypeId} {size : Nat} {v : Value} {k : Nat} {xs : List Value} (hr : w.ownsRow base' e size v k xs) (he : ¬ isPostT e) (hv : ∀ k, isVar k → k < base') (hg : w.grownBy w' v.ownBlock) : PsAt base w' m P n b := by
  obtain ⟨F, h1, h2, h3, h4⟩ := h
  exact ⟨F, h1.grown hr ⟨fun h => he (.inl h), fun h => he (.inr (.inl h)), fun h => he (.inr (.inr h))⟩ hv hg, h2, h3, Nat.le_trans h4 hg.size⟩

section
variable {base : Nat} {w : World} {m : Nat} {P n : Nat → Nat} {b : Nat → Book}
def DoPs (base m : Nat) (P n : Nat → Nat) (b : Nat → Book) (i : Nat) (r : ByteArray × Int × Book) (w : World) (e : Ending) (w' : World) : Prop :=
  e = .returned (.tuple #[.string r.1, .int .i64 r.2.1]) ∧ PsAt base w' m P n (upN b i r.2.2) ∧ Kin base w w'
theorem do_ps (h : PsAt base w m P n b) {i : Nat} (hi : i < m) (line : ByteArray) (hs : line.size ≤ 1000000) :
    Calls Tryz.prog 24 #[.pointer (some ⟨P i, 0, none⟩), .string line] w (DoPs base m P n b i (doB (b i) (n i) line) w) := by
  obtain ⟨F, h1, h2, h3, h4⟩ := id h
  refine (do_any (P i) (n i) (h3 i hi).2 (F i) (b i) line hs w (h1.post i hi) (h3 i hi).1 h1.vars (h1.free i hi)).mono ?_
  rintro e w' ⟨rfl, F', k1, k2, k3⟩
  exact ⟨rfl, PsAt.turn h1 h2 h3 h4 hi (doB_ok (h3 i hi).1 (h3 i hi).2 line) k1 k2 k3⟩
def JoinPs (base m : Nat) (P n : Nat → Nat) (b : Nat → Book) (i : Nat) (r : Int × Book) (w : World) (e : Ending) (w' : World) : Prop :=
  e = .returned (.int .i64 r.1) ∧ PsAt base w' m P n (upN b i r.2) ∧ Kin base w w'
theorem join_ps (h : PsAt base w m P n b) {i j : Nat} (hi : i < m) (hj : j < m) :
    Calls Tryz.prog 22 #[.pointer (some ⟨P i, 0, none⟩), .pointer (some ⟨P j, 0, none⟩)] w (JoinPs base m P n b i (joinV (b i) (b j)) w) := by
  obtain ⟨F, h1, h2, h3, h4⟩ := id h
  refine (join_post (P i) (n i) (F i) (b i) (P j) (n j) (F j) (b j) w (h1.post i hi) (h1.post j hj) (h3 i hi).1 (h3 j hj).1).mono ?_
  rintro e w' ⟨rfl, F', k1, k2, k3⟩
  exact ⟨rfl, PsAt.turn h1 h2 h3 h4 hi (joinV_ok (h3 i hi).1 (h3 j hj).1) k1 k2 k3⟩
def NewPs (base m : Nat) (P n : Nat → Nat) (b : Nat → Book) (k : Nat) (c : Book) (w w' : World) (P' : Nat) : Prop :=
  PsAt base w' (m + 1) (upN P m P') (upN n m k) (upN b m c) ∧ Kin base w w'
theorem copy_ps (h : PsAt base w m P n b) {i : Nat} (hi : i < m) :
    Calls Tryz.prog 35 #[.pointer (some ⟨P i, 0, none⟩)] w fun e w' => ∃ P', e = .returned (.pointer (some ⟨P', 0, none⟩)) ∧ NewPs base m P n b (n i) (b i) w w' P' := by
  obtain ⟨F, h1, h2, h3, h4⟩ := id h
  refine (copy_post (P i) (n i) (F i) (b i) w (h1.post i hi) (h3 i hi).1).mono ?_
  rintro e w' ⟨P', F', rfl, k1, k2, k3⟩
  exact ⟨P', rfl, h.grow k1 k2 k3 (h3 i hi).1 (h3 i hi).2, Kin.of_below k3⟩
theorem new_ps (h : PsAt base w m P n b) (k : Nat) (hk : k < 4) :
    Calls Tryz.prog 34 #[.int .i64 k] w fun e w' => ∃ P', e = .returned (.tuple #[.pointer (some ⟨P', 0, none⟩), .int .i64 0]) ∧ NewPs base m P n b k empB w w' P' := by
  refine (new_any k hk w).mono ?_
  rintro e w' ⟨rfl, rfl⟩
  have hb : Below w.heap.size w ((w.alloc (.cells #[.slice none 0 0, .slice none 0 0, .slice none 0 0, .slice none 0 0] 96)).alloc (.cells #[.pointer (some ⟨w.heap.size, 0, none⟩), .int .i64 k] 81)) := ((Below.refl _ _).alloc (Nat.le_refl _) _).alloc (by simp) _
  exact ⟨_, rfl, h.grow (new_post k w) (fun g hg => .inr (by simp at hg; omega)) hb empB_ok hk, Kin.of_below hb⟩
end
/-- A post: its block, its number, its book. -/
abbrev PB := Nat × Nat × Book
def noPB : PB := (0, 0, empB)
def atL : List PB → Nat → PB
  | [], _ => noPB
  | x :: _, 0 => x
  | _ :: l, i + 1 => atL l i
def setL : List PB → Nat → PB → List PB
  | [], _, _ => []
  | _ :: l, 0, y => y :: l
  | x :: l, i + 1, y => x :: setL l i y
theorem setL_len : ∀ (l : List PB) (i : Nat) (y : PB), (setL l i y).length = l.length
  | [], _, _ => rfl
  | _ :: _, 0, _ => rfl
  | _ :: l, i + 1, y => by rw [setL, List.length_cons, setL_len l i y, List.length_cons]
theorem setL_at : ∀ (l : List PB) (i j : Nat) (y : PB), i < l.length → atL (setL l i y) j = if j = i then y else atL l j
  | _ :: _, 0, 0, _, _ => rfl
  | _ :: _, 0, _ + 1, _, _ => rfl
  | _ :: _, _ + 1, 0, _, _ => rfl
  | _ :: l, i + 1, j + 1, y, h => by
    rw [setL, atL, setL_at l i j y (by simpa using h), atL]
    by_cases e : j = i
    · subst e; simp
    · rw [if_neg e, if_neg (by omega)]
theorem atL_append : ∀ (l r : List PB) (i : Nat), i < l.length → atL (l ++ r) i = atL l i
  | _ :: _, _, 0, _ => rfl
  | _ :: l, r, i + 1, h => atL_append l r i (by simpa using h)
theorem atL_last : ∀ (l : List PB) (y : PB), atL (l ++ [y]) l.length = y
  | [], _ => rfl
  | _ :: l, y => atL_last l y
def PsL (base : Nat) (w : World) (l : List PB) : Prop := PsAt base w l.length (fun i => (atL l i).1) (fun i => (atL l i).2.1) (fun i => (atL l i).2.2)
theorem PsL.vars {base : Nat} {w : World} {l : List PB} (h : PsL base w l) : Vars w := PsAt.vars h
theorem PsL.nil {w : World} (hv : Vars w) : PsL w.heap.size w [] := PsAt.nil hv _ _ _
theorem PsL.below {base : Nat} {w w' : World} {l : List PB} (h : PsL base w l) (hb : Below w.heap.size w w') : PsL base w' l := PsAt.below h hb
theorem PsL.first {base : Nat} {w : World} {l r : List PB} (h : PsL base w (l ++ r)) : PsL base w l := by
  have h1 : PsAt base w (l ++ r).length (fun i => (atL (l ++ r) i).1) (fun i => (atL (l ++ r) i).2.1) (fun i => (atL (l ++ r) i).2.2) := h
  have h2 := h1.first (r := l.length) (by simp)
  exact h2.congr fun i hi => by rw [atL_append l r i hi]; exact ⟨rfl, rfl, rfl⟩
theorem PsL.of_set {base : Nat} {w : World} {l : List PB} {i : Nat} (hi : i < l.length) {c : Book} (h : PsAt base w l.length (fun i => (atL l i).1) (fun i => (atL l i).2.1) (upN (fun i => (atL l i).2.2) i c)) : PsL base w (setL l i ((atL l i).1, (atL l i).2.1, c)) := by
  unfold PsL
  rw [setL_len]
  refine h.congr fun j _ => ?_
  rw [setL_at l i j _ hi]
  unfold upN
  by_cases e : j = i
  · subst e; simp
  · simp [e]
theorem PsL.of_new {base : Nat} {w : World} {l : List PB} {P k : Nat} {c : Book} (h : PsAt base w (l.length + 1) (upN (fun i => (atL l i).1) l.length P) (upN (fun i => (atL l i).2.1) l.length k) (upN (fun i => (atL l i).2.2) l.length c)) : PsL base w (l ++ [(P, k, c)]) := by
  unfold PsL
  rw [List.length_append]
  refine h.congr fun j hj => ?_
  unfold upN
  by_cases e : j = l.length
  · subst e; rw [atL_last]; simp
  · rw [atL_append l _ j (by omega)]; simp [e]
section
variable {base : Nat} {w : World} {l : List PB}
theorem join_l (h : PsL base w l) {i j : Nat} (hi : i < l.length) (hj : j < l.length) :
    Calls Tryz.prog 22 #[.pointer (some ⟨(atL l i).1, 0, none⟩), .pointer (some ⟨(atL l j).1, 0, none⟩)] w fun e w' => e = .returned (.int .i64 (joinV (atL l i).2.2 (atL l j).2.2).1) ∧
      PsL base w' (setL l i ((atL l i).1, (atL l i).2.1, (joinV (atL l i).2.2 (atL l j).2.2).2)) ∧ Kin base w w' := by
  refine (join_ps h hi hj).mono ?_
  rintro e w' ⟨rfl, h1, h2⟩
  exact ⟨rfl, PsL.of_set hi h1, h2⟩
theorem copy_l (h : PsL base w l) {i : Nat} (hi : i < l.length) :
    Calls Tryz.prog 35 #[.pointer (some ⟨(atL l i).1, 0, none⟩)] w fun e w' => ∃ P', e = .returned (.pointer (some ⟨P', 0, none⟩)) ∧ PsL base w' (l ++ [(P', (atL l i).2.1, (atL l i).2.2)]) ∧ Kin base w w' := by
  refine (copy_ps h hi).mono ?_
  rintro e w' ⟨P', rfl, h1, h2⟩
  exact ⟨P', rfl, PsL.of_new h1, h2⟩
theorem new_l (h : PsL base w l) (k : Nat) (hk : k < 4) :
    Calls Tryz.prog 34 #[.int .i64 k] w fun e w' => ∃ P', e = .returned (.tuple #[.pointer (some ⟨P', 0, none⟩), .int .i64 0]) ∧ PsL base w' (l ++ [(P', k, empB)]) ∧ Kin base w w' := by
  refine (new_ps h k hk).mono ?_
  rintro e w' ⟨P', rfl, h1, h2⟩
  exact ⟨P', rfl, PsL.of_new h1, h2⟩
end
structure StrsIn (w : World) (v : Value) (l : List ByteArray) : Prop where
  at_ : StrsW w v l
  len : l.length ≤ maxLen
  sz : ∀ s ∈ l, s.size ≤ maxLen
theorem StrsIn.below {w w' : World} {v : Value} {l : List ByteArray} (h : StrsIn w v l) (hb : Below w.heap.size w w') : StrsIn w' v l := ⟨h.at_.below hb, h.len, h.sz⟩
def BytesW (w : World) (v : Value) (l : List Int) : Prop := ∃ (a : Option Addr) (cap : Nat), v = .slice a l.length cap ∧ l.length ≤ maxLen ∧ (0 < l.length → ∃ b off, a = some ⟨b, off, none⟩ ∧ ∀ j, j < l.length → w.cell? ⟨b, off + j, none⟩ = some (.int .u8 (l.getD j 0)))
theorem BytesW.below {w w' : World} {v : Value} {l : List Int} (h : BytesW w v l) (hb : Below w.heap.size w w') : BytesW w' v l := by
  obtain ⟨a, cap, rfl, h1, h⟩ := h
  refine ⟨a, cap, rfl, h1, fun h0 => ?_⟩
  obtain ⟨b, off, ha, hc⟩ := h h0
  exact ⟨b, off, ha, fun j hj => keep_cell hb (hc j hj)⟩
structure U8sAt (w : World) (v : Value) (l : List Int) : Prop where
  at_ : BytesW w v l
  val : ∀ j, j < l.length → 0 ≤ l.getD j 0 ∧ l.getD j 0 ≤ 255

def longB (l : List ByteArray) (n : Int) : Bool := (l.any fun s => decide (200 < s.size)) || decide (n < (l.length : Int))
theorem longB_no {l : List ByteArray} {n : Int} (h : longB l n = false) : (∀ s ∈ l, s.size ≤ 200) ∧ (l.length : Int) ≤ n := by
  unfold longB at h
  rw [Bool.or_eq_false_iff, List.any_eq_false, decide_eq_false_iff_not] at h
  exact ⟨fun s hs => by have := h.1 s hs; simpa using this, by omega⟩
theorem longB_yes {l : List ByteArray} (n : Int) {k : Nat} (hk : k < l.length) (h : 200 < (l.getD k emp).size) : longB l n = true := by
  unfold longB
  rw [Bool.or_eq_true, List.any_eq_true]
  rw [List.getD_eq_getElem?_getD, List.getElem?_eq_getElem hk] at h
  exact .inl ⟨l[k], List.getElem_mem hk, by simpa using h⟩
theorem longB_end {l : List ByteArray} (n : Int) (h : ∀ j, j < l.length → (l.getD j emp).size ≤ 200) : longB l n = decide (n < (l.length : Int)) := by
  unfold longB
  have : (l.any fun s => decide (200 < s.size)) = false := by
    rw [List.any_eq_false]
    intro s hs
    obtain ⟨j, hj, rfl⟩ := List.getElem_of_mem hs
    have := h j hj
    rw [List.getD_eq_getElem?_getD, List.getElem?_eq_getElem hj] at this
    simpa using this
  rw [this, Bool.false_or]
set_option maxRecDepth 100000 in
set_option maxHeartbeats 4000000 in
theorem long_any (v : Value) (l : List ByteArray) (n : Int) (w : World) (hin : StrsIn w v l) :
    Calls Tryz.prog 15 #[v, .int .i64 n] w (BoolPost (longB l n) w) := by
  have hl := hin.len
  have hsz := hin.sz
  obtain ⟨a, cap, rfl, h⟩ := hin.at_
  obtain ⟨R, hR⟩ : ∃ R, R = longB l n := ⟨_, rfl⟩
  have HR := Lib.hid hR
  rw [← hR]
  clear hR
  have HC1 := Lib.hid (fun k (hk : k < l.length) => (h (by omega)))
  have HSZ := Lib.hid (fun k (hk : k < l.length) => show (l.getD k emp).size ≤ maxLen by
    rw [List.getD_eq_getElem?_getD, List.getElem?_eq_getElem hk]; exact hsz _ (List.getElem_mem hk))
  obtain ⟨ln, hn⟩ : ∃ ln, ln = l.length := ⟨_, rfl⟩
  have HN := Lib.hid hn
  rw [← hn]
  have hn6 : (ln : Int) ≤ 9223372036854775807 := by unfold maxLen at hl; omega
  clear h hn hsz hl hin
  go_enter Tryz.func15, Tryz.ntmps15
  go_wp2
  go_loopw [5] (fun i wr => ∃ k : Nat, k ≤ ln ∧ i = .int .i64 k ∧ Hid (∀ j, j < k → (l.getD j emp).size ≤ 200) ∧ Below w.heap.size w wr) (fun i _ => ln - (intOf i).toNat)
  case atStart => exact ⟨0, Nat.zero_le _, rfl, Lib.hid (fun j hj => by omega), Below.refl _ _⟩
  case round =>
    obtain ⟨k, hk, rfl, ht, hb⟩ := hrel
    by_cases hlt : k < ln
    · obtain ⟨b, off, rfl, hc⟩ := HC1.out k (by rw [← HN.out]; exact hlt)
      have c1 := keep_cell hb (hc k (by rw [← HN.out]; exact hlt))
      have hsx := HSZ.out k (by rw [← HN.out]; exact hlt)
      have HT := Lib.hid (fun (hx : (l.getD k emp).size ≤ 200) => show ∀ j, j < k + 1 → (l.getD j emp).size ≤ 200 from fun j hj => by
        by_cases e : j = k
        · subst e; exact hx
        · exact ht.out j (by omega))
      have HX := Lib.hid (fun (hx : 200 < (l.getD k emp).size) => show R = true by rw [HR.out]; exact longB_yes n (by rw [← HN.out]; exact hlt) hx)
      have HB := Lib.hid hb
      clear hc hb ht
      generalize l.getD k emp = x at *
      unfold maxLen at hsx
      by_cases hxs : 200 < x.size
      · have z0 : (200 : Int) < (x.size : Int) := by omega
        have HXX := Lib.hid (HX.out hxs)
        go_wp2
        go_ret
        rw [HXX.out]
        exact ⟨rfl, HB.out⟩
      · have z0 : ¬ (200 : Int) < (x.size : Int) := by omega
        have HTT := Lib.hid (HT.out (by omega))
        go_wp2
        go_roundw
        case rel => exact ⟨k + 1, by omega, by go_num, HTT, HB.out⟩
        case measure => simp [intOf]; omega
    · have e : k = ln := by omega
      have HXX : Hid (R = decide (n < (ln : Int))) := Lib.hid (by
        rw [HR.out, longB_end n (fun j hj => ht.out j (by rw [e, HN.out]; exact hj)), ← HN.out])
      clear e
      go_wp2
      go_ret
      rw [HXX.out]
      exact ⟨rfl, hb⟩
end Go.Proofs.YtdfkaijeppdhaaaGreatDoor
