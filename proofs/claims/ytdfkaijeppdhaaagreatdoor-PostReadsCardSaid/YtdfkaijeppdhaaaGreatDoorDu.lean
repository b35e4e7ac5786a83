/- Posts of the program and posts of the reference together, each on blocks of its own (Post). -/
import Derived.Test.YtdfkaijeppdhaaaGreatDoorLb
import Derived.Test.YtdfkaijeppdhaaaGreatDoorRk
namespace Go.Proofs.YtdfkaijeppdhaaaGreatDoor
open Go.RowKit Go.Shelf

theorem EntsAt.keep {w w' : World} {v : Value} {l : List Ent} (h : EntsAt w v l) (hk : 0 < l.length → ∀ k, v.ownBlock = some k → w'.heap[k]? = w.heap[k]?) : EntsAt w' v l := by
  obtain ⟨a, cap, rfl, hl, h⟩ := h
  refine ⟨a, cap, rfl, hl, fun h0 => ?_⟩
  obtain ⟨b, off, rfl, hc⟩ := h h0
  exact ⟨b, off, rfl, fun j c x hcc hx => (World.cell?_of_block (hk h0 b rfl)).trans (hc j c x hcc hx)⟩
theorem EntsAt.lt {w : World} {v : Value} {l : List Ent} (h : EntsAt w v l) (h0 : 0 < l.length) {k : Nat} (hk : v.ownBlock = some k) : k < w.heap.size := by
  obtain ⟨g, off, cap, rfl, h1, _⟩ := h.entry (k := 0) h0
  have : g = k := by simpa [Value.ownBlock] using hk
  subst this
  rcases Nat.lt_or_ge g w.heap.size with h2 | h2
  · exact h2
  · simp [World.cell?, Array.getElem?_eq_none h2] at h1
theorem setCell_five {W : World} {K : Nat} {a b c d f : Value} {t : TypeId} (h : W.heap[K]? = some (.cells #[a, b, c, d, f] t (0, 0))) (i : Nat) (v : Value) : (W.setCell ⟨K, i, none⟩ v).heap[K]? = some (.cells (#[a, b, c, d, f].setIfInBounds i v) t (0, 0)) := by
  obtain ⟨hlt, hk⟩ := Array.getElem?_eq_some_iff.1 h
  show (W.heap.modify K _)[K]? = _
  rw [Array.getElem?_eq_getElem (by rw [Array.size_modify]; exact hlt), Array.getElem_modify_self, hk]
  simp
/-- A post of the reference; G: the blocks of its rows. -/
def RpAt (w : World) (R n : Nat) (G : List Nat) (b : Book) : Prop :=
  ∃ vs : Nat → Value, RfAt w R n vs b ∧ ∀ i, i < 4 → 0 < (b i).length → ∀ k, (vs i).ownBlock = some k → k ∈ G
theorem RpAt.lt {w : World} {R n : Nat} {G : List Nat} {b : Book} (h : RpAt w R n G b) : R < w.heap.size := by obtain ⟨vs, h1, _⟩ := h; exact h1.lt
theorem RpAt.keep {w w' : World} {R n : Nat} {G : List Nat} {b : Book} (h : RpAt w R n G b) (hR : w'.heap[R]? = w.heap[R]?) (hG : ∀ k ∈ G, k < w.heap.size → w'.heap[k]? = w.heap[k]?) : RpAt w' R n G b := by
  obtain ⟨vs, h1, h2⟩ := h
  exact ⟨vs, ⟨hR.trans h1.1, fun i hi => (h1.2 i hi).keep fun h0 k hk => hG k (h2 i hi h0 k hk) ((h1.2 i hi).lt h0 hk)⟩, h2⟩
theorem RpAt.below {w w' : World} {R n : Nat} {G : List Nat} {b : Book} (h : RpAt w R n G b) (hb : Below w.heap.size w w') : RpAt w' R n G b := h.keep (hb.block _ h.lt) fun k _ hk => hb.block k hk
theorem RpAt.type {w : World} {R n : Nat} {G : List Nat} {b : Book} (h : RpAt w R n G b) : ∃ cs, w.heap[R]? = some (.cells cs 54 (0, 0)) := by obtain ⟨vs, h1, _⟩ := h; exact ⟨_, h1.1⟩

def isDuoT (t : Nat) : Prop := isPostT t ∨ t = 54
/-- Of what was there only blocks of posts, of the program and of the reference, from base on, may have turned. -/
structure Kid (base : Nat) (w w' : World) : Prop where
  os : w'.os = w.os
  tape : w'.tape = w.tape
  output : w'.output = w.output
  size : w.heap.size ≤ w'.heap.size
  block : ∀ k, k < w.heap.size → w'.heap[k]? = w.heap[k]? ∨ base ≤ k ∧ ∃ cs t fr, w.heap[k]? = some (.cells cs t fr) ∧ isDuoT t
theorem Kid.refl (base : Nat) (w : World) : Kid base w w := ⟨rfl, rfl, rfl, Nat.le_refl _, fun _ _ => .inl rfl⟩
theorem Kid.trans {base : Nat} {a b c : World} (h : Kid base a b) (k : Kid base b c) : Kid base a c :=
  ⟨k.os.trans h.os, k.tape.trans h.tape, k.output.trans h.output, Nat.le_trans h.size k.size, fun i hi => by
    rcases h.block i hi with h1 | h1
    · rcases k.block i (Nat.lt_of_lt_of_le hi h.size) with h2 | ⟨h2, cs, t, fr, h3, h4⟩
      · exact .inl (h2.trans h1)
      · exact .inr ⟨h2, cs, t, fr, h1.symm.trans h3, h4⟩
    · exact .inr h1⟩
theorem Kid.of_below {base : Nat} {w w' : World} (h : Below w.heap.size w w') : Kid base w w' := ⟨h.os, h.tape, h.output, h.size, fun k hk => .inl (h.block k hk)⟩
theorem Kid.of_kin {base : Nat} {w w' : World} (h : Kin base w w') : Kid base w w' := ⟨h.os, h.tape, h.output, h.size, fun k hk => (h.block k hk).imp id fun ⟨h1, cs, t, fr, h2, h3⟩ => ⟨h1, cs, t, fr, h2, .inl h3⟩⟩
theorem Kid.of_off {base R : Nat} {w w' : World} {cs : Array Value} {fr : Nat × Nat} (hR : w.heap[R]? = some (.cells cs 54 fr)) (hb : base ≤ R) (ho : Off [R] w w') : Kid base w w' :=
  ⟨ho.os, ho.tape, ho.output, ho.size, fun k hk => by
    by_cases e : k = R
    · subst e; exact .inr ⟨hb, _, _, _, hR, .inr rfl⟩
    · exact .inl (ho.block k hk (by simp [e]))⟩
theorem Kid.below {base : Nat} {w w' : World} (h : Kid base w w') (hb : base ≤ w.heap.size) : Below base w w' :=
  ⟨h.os, h.tape, h.output, h.size, fun k hk => (h.block k (Nat.lt_of_lt_of_le hk hb)).resolve_right fun h1 => by omega⟩
theorem Kid.keep {base : Nat} {w w' : World} (h : Kid base w w') {k : Nat} {cs : Array Value} {t : TypeId} {fr : Nat × Nat} (hk : w.heap[k]? = some (.cells cs t fr)) (ht : ¬ isDuoT t) : w'.heap[k]? = some (.cells cs t fr) := by
  rcases h.block k (Array.getElem?_eq_some_iff.1 hk).1 with h1 | ⟨_, cs', t', fr', h1, h2⟩
  · exact h1.trans hk
  · rw [hk] at h1
    simp only [Option.some.injEq, Obj.cells.injEq] at h1
    obtain ⟨_, rfl, _⟩ := h1
    exact absurd h2 ht

/-- Posts of the program in the blocks P, with the numbers n and the books B; of the reference in the blocks R, with the numbers k and the books C. -/
structure Duo (base : Nat) (w : World) (m : Nat) (P n : Nat → Nat) (B : Nat → Book) (r : Nat) (R k : Nat → Nat) (C : Nat → Book) (X : List Nat) (F G : Nat → List Nat) : Prop where
  posts : Posts w m (fun i => ⟨P i, F i, n i, B i⟩)
  low : ∀ i, i < m → ∀ g ∈ F i, base ≤ g
  ok : ∀ i, i < m → BookOk (B i) ∧ n i < 4
  refs : ∀ j, j < r → RpAt w (R j) (k j) (G j) (C j)
  rlow : ∀ j, j < r → base ≤ R j
  rok : ∀ j, j < r → BookOk (C j) ∧ k j < 4
  one : ∀ i j, i < r → j < r → i ≠ j → R i ≠ R j
  off : ∀ j i, j < r → i < m → R j ∉ F i ∧ ∀ g ∈ G j, g ∉ F i
  roff : ∀ i j, i < r → j < r → R i ∉ G j
  lt : ∀ j, j < r → ∀ g ∈ G j, g < w.heap.size
  free : ∀ j, j < r → ¬ isVar (R j)
  size : base ≤ w.heap.size
  side : ∀ g ∈ X, g < w.heap.size ∧ ¬ isVar g ∧ (∀ i, i < m → g ∉ F i) ∧ ∀ j, j < r → g ≠ R j ∧ g ∉ G j
def DuoL (base : Nat) (w : World) (X : List Nat) (m : Nat) (P n : Nat → Nat) (B : Nat → Book) (r : Nat) (R k : Nat → Nat) (C : Nat → Book) : Prop := ∃ F G, Duo base w m P n B r R k C X F G
section
variable {base : Nat} {w w' : World} {m r : Nat} {P n R k : Nat → Nat} {B C : Nat → Book} {F G : Nat → List Nat} {X : List Nat}
theorem Duo.nil (hv : Vars w) (P n : Nat → Nat) (B : Nat → Book) (R k : Nat → Nat) (C : Nat → Book) : DuoL w.heap.size w [] 0 P n B 0 R k C :=
  ⟨fun _ => [], fun _ => [], Posts.nil hv _, fun i h => by omega, fun i h => by omega, fun i h => by omega, fun i h => by omega, fun i h => by omega, fun i j h => by omega, fun i j h => by omega, fun i j h => by omega, fun i h => by omega, fun i h => by omega, Nat.le_refl _, fun g hg => by simp at hg⟩
theorem DuoL.vars (h : DuoL base w X m P n B r R k C) : Vars w := by obtain ⟨F, G, h⟩ := h; exact h.posts.vars
theorem DuoL.size (h : DuoL base w X m P n B r R k C) : base ≤ w.heap.size := by obtain ⟨F, G, h⟩ := h; exact h.size
theorem DuoL.ok (h : DuoL base w X m P n B r R k C) {i : Nat} (hi : i < m) : BookOk (B i) := by obtain ⟨F, G, h⟩ := h; exact (h.ok i hi).1
theorem DuoL.num (h : DuoL base w X m P n B r R k C) {i : Nat} (hi : i < m) : n i < 4 := by obtain ⟨F, G, h⟩ := h; exact (h.ok i hi).2
theorem DuoL.rok (h : DuoL base w X m P n B r R k C) {i : Nat} (hi : i < r) : BookOk (C i) := by obtain ⟨F, G, h⟩ := h; exact (h.rok i hi).1
theorem DuoL.rnum (h : DuoL base w X m P n B r R k C) {i : Nat} (hi : i < r) : k i < 4 := by obtain ⟨F, G, h⟩ := h; exact (h.rok i hi).2
theorem DuoL.below (h : DuoL base w X m P n B r R k C) (hb : Below w.heap.size w w') : DuoL base w' X m P n B r R k C := by
  obtain ⟨F, G, h⟩ := h
  exact ⟨F, G, h.posts.below hb, h.low, h.ok, fun j hj => (h.refs j hj).below hb, h.rlow, h.rok, h.one, h.off, h.roff, fun j hj g hg => Nat.lt_of_lt_of_le (h.lt j hj g hg) hb.size, h.free, Nat.le_trans h.size hb.size, fun g hg => ⟨Nat.lt_of_lt_of_le (h.side g hg).1 hb.size, (h.side g hg).2⟩⟩
theorem DuoL.lower {base' : Nat} (h : DuoL base w X m P n B r R k C) (hb : base' ≤ base) : DuoL base' w X m P n B r R k C := by
  obtain ⟨F, G, h⟩ := h
  exact ⟨F, G, h.posts, fun i hi g hg => Nat.le_trans hb (h.low i hi g hg), h.ok, h.refs, fun j hj => Nat.le_trans hb (h.rlow j hj), h.rok, h.one, h.off, h.roff, h.lt, h.free, Nat.le_trans hb h.size, h.side⟩
theorem setS_fun (P n : Nat → Nat) (B : Nat → Book) (F : Nat → List Nat) (i P' n' : Nat) (F' : List Nat) (c : Book) : setS (fun i => (⟨P i, F i, n i, B i⟩ : Pst)) i ⟨P', F', n', c⟩ = fun j => ⟨upN P i P' j, upN F i F' j, upN n i n' j, upN B i c j⟩ := by
  funext j
  unfold setS upN
  split <;> rfl
/-- A post of the program turns. -/
theorem Duo.turn (h : Duo base w m P n B r R k C X F G) {i : Nat} (hi : i < m) {c : Book} (hc : BookOk c) {F' : List Nat} (k1 : PostAt w' (P i) F' (n i) c) (k2 : NewOr w (F i) F') (k3 : Off (F i) w w') :
    DuoL base w' X m P n (upN B i c) r R k C ∧ Kid base w w' := by
  have ht := h.posts.turn hi (p := ⟨P i, F', n i, c⟩) k1 k2 k3
  rw [setS_fun] at ht
  have hP : upN P i (P i) = P := by funext j; unfold upN; split <;> simp_all
  have hn : upN n i (n i) = n := by funext j; unfold upN; split <;> simp_all
  rw [hP, hn] at ht
  refine ⟨⟨upN F i F', G, ht, fun j hj g hg => ?_, fun j hj => ?_, fun j hj => ?_, h.rlow, h.rok, h.one, fun j a hj ha => ?_, h.roff, fun j hj g hg => Nat.lt_of_lt_of_le (h.lt j hj g hg) k3.size, h.free, Nat.le_trans h.size k3.size, fun g hg => ?_⟩, Kid.of_kin (Kin.of_off (h.posts.post i hi) (h.low i hi) k3)⟩
  · by_cases e : j = i
    · subst e
      rw [upN_same] at hg
      rcases k2 g hg with h5 | h5
      · exact h.low j hj g h5
      · exact Nat.le_trans h.size h5
    · rw [upN_other _ _ e] at hg
      exact h.low j hj g hg
  · by_cases e : j = i
    · subst e; rw [upN_same]; exact ⟨hc, (h.ok j hj).2⟩
    · rw [upN_other _ _ e]; exact h.ok j hj
  · exact (h.refs j hj).keep (k3.block _ (h.refs j hj).lt (h.off j i hj hi).1) fun g hg hlt => k3.block g hlt ((h.off j i hj hi).2 g hg)
  · by_cases e : a = i
    · subst e
      rw [upN_same]
      refine ⟨fun hm => ?_, fun g hg hm => ?_⟩
      · rcases k2 _ hm with h5 | h5
        · exact (h.off j a hj ha).1 h5
        · have := (h.refs j hj).lt; omega
      · rcases k2 _ hm with h5 | h5
        · exact (h.off j a hj ha).2 g hg h5
        · have := h.lt j hj g hg; omega
    · rw [upN_other _ _ e]; exact h.off j a hj ha
  · obtain ⟨s1, s2, s3, s4⟩ := h.side g hg
    refine ⟨Nat.lt_of_lt_of_le s1 k3.size, s2, fun a ha hm => ?_, s4⟩
    by_cases e : a = i
    · subst e
      rw [upN_same] at hm
      rcases k2 _ hm with h5 | h5
      · exact s3 a ha h5
      · omega
    · rw [upN_other _ _ e] at hm; exact s3 a ha hm
/-- A new post of the program, at a place i. -/
theorem Duo.put (h : Duo base w m P n B r R k C X F G) {m' i : Nat} (hm : ∀ j, j < m' → j = i ∨ j < m) {c : Book} (hc : BookOk c) {P' n' : Nat} {F' : List Nat} (hn : n' < 4) (k1 : PostAt w' P' F' n' c) (k2 : NewOr w [] F') (hb : Below w.heap.size w w') :
    DuoL base w' X m' (upN P i P') (upN n i n') (upN B i c) r R k C ∧ Kid base w w' := by
  have hnew : ∀ g ∈ F', w.heap.size ≤ g := fun g hg => (k2 g hg).resolve_left (by simp)
  have hP : ∀ j, j < m' → j ≠ i → j < m := fun j hj he => (hm j hj).resolve_left he
  refine ⟨⟨upN F i F', G, ⟨h.posts.vars.below hb, fun j hj => ?_, fun a b ha hb2 hab g hg => ?_, fun j hj g hg => ?_⟩, fun j hj g hg => ?_, fun j hj => ?_, fun j hj => (h.refs j hj).below hb, h.rlow, h.rok, h.one, fun j a hj ha => ?_, h.roff, fun j hj g hg => Nat.lt_of_lt_of_le (h.lt j hj g hg) hb.size, h.free, Nat.le_trans h.size hb.size, fun g hg => ?_⟩, Kid.of_below hb⟩
  · by_cases e : j = i
    · subst e; simp only [upN_same]; exact k1
    · simp only [upN_other _ _ e]; exact (h.posts.post j (hP j hj e)).below hb
  · simp only at hg ⊢
    by_cases ea : a = i
    · subst ea
      rw [upN_same] at hg
      rw [upN_other _ _ (Ne.symm hab)]
      intro h2
      have h3 := h.posts.lt (hP b hb2 (Ne.symm hab)) h2
      have h4 := hnew g hg
      omega
    · rw [upN_other _ _ ea] at hg
      by_cases eb : b = i
      · subst eb
        rw [upN_same]
        intro h2
        have h3 := h.posts.lt (hP a ha ea) hg
        have h4 := hnew g h2
        omega
      · rw [upN_other _ _ eb]
        exact h.posts.apart a b (hP a ha ea) (hP b hb2 eb) hab g hg
  · simp only at hg
    by_cases e : j = i
    · subst e
      rw [upN_same] at hg
      intro hv
      have h3 := h.posts.vars.lt hv
      have h4 := hnew g hg
      omega
    · rw [upN_other _ _ e] at hg
      exact h.posts.free j (hP j hj e) g hg
  · by_cases e : j = i
    · subst e
      rw [upN_same] at hg
      exact Nat.le_trans h.size (hnew g hg)
    · rw [upN_other _ _ e] at hg
      exact h.low j (hP j hj e) g hg
  · by_cases e : j = i
    · subst e; rw [upN_same, upN_same]; exact ⟨hc, hn⟩
    · rw [upN_other _ _ e, upN_other _ _ e]; exact h.ok j (hP j hj e)
  · by_cases e : a = i
    · subst e
      rw [upN_same]
      refine ⟨fun h2 => ?_, fun g hg h2 => ?_⟩
      · have h3 := (h.refs j hj).lt
        have h4 := hnew _ h2
        omega
      · have h3 := h.lt j hj g hg
        have h4 := hnew _ h2
        omega
    · rw [upN_other _ _ e]; exact h.off j a hj (hP a ha e)
  · obtain ⟨s1, s2, s3, s4⟩ := h.side g hg
    refine ⟨Nat.lt_of_lt_of_le s1 hb.size, s2, fun a ha hm => ?_, s4⟩
    by_cases e : a = i
    · subst e
      rw [upN_same] at hm
      have := hnew _ hm
      omega
    · rw [upN_other _ _ e] at hm; exact s3 a (hP a ha e) hm
/-- A post of the reference turns: its rows are old ones, or new. -/
theorem Duo.rturn (h : Duo base w m P n B r R k C X F G) {j : Nat} (hj : j < r) {c : Book} (hc : BookOk c) {G' : List Nat} (k1 : RpAt w' (R j) (k j) G' c) (k2 : ∀ g ∈ G', (∃ i, i < r ∧ g ∈ G i) ∨ (w.heap.size ≤ g ∧ g < w'.heap.size)) (k3 : Off [R j] w w') :
    DuoL base w' X m P n B r R k (upN C j c) ∧ Kid base w w' := by
  have hkeep : ∀ g, g < w.heap.size → g ≠ R j → w'.heap[g]? = w.heap[g]? := fun g hg he => k3.block g hg (by simp [he])
  obtain ⟨cs, hcs⟩ := (h.refs j hj).type
  refine ⟨⟨F, upN G j G', ?_, h.low, h.ok, fun i hi => ?_, h.rlow, fun i hi => ?_, h.one, fun a b ha hb => ?_, fun a b ha hb hm => ?_, fun i hi g hg => ?_, h.free, Nat.le_trans h.size k3.size, fun g hg => ?_⟩, Kid.of_off hcs (h.rlow j hj) k3⟩
  · exact h.posts.keep (fun g hg => hkeep g (h.posts.vars.lt hg) fun e => h.free j hj (e ▸ hg)) fun i hi g hg => hkeep g (h.posts.lt hi hg) fun e => (h.off j i hj hi).1 (e ▸ hg)
  · by_cases e : i = j
    · subst e; rw [upN_same, upN_same]; exact k1
    · rw [upN_other _ _ e, upN_other _ _ e]
      exact (h.refs i hi).keep (hkeep _ (h.refs i hi).lt (h.one i j hi hj e)) fun g hg hlt => hkeep g hlt fun e2 => h.roff j i hj hi (e2 ▸ hg)
  · by_cases e : i = j
    · subst e; rw [upN_same]; exact ⟨hc, (h.rok i hi).2⟩
    · rw [upN_other _ _ e]; exact h.rok i hi
  · refine ⟨(h.off a b ha hb).1, fun g hg => ?_⟩
    by_cases e : a = j
    · subst e
      rw [upN_same] at hg
      rcases k2 g hg with ⟨i, hi, h5⟩ | ⟨h5, _⟩
      · exact (h.off i b hi hb).2 g h5
      · intro h6; have := h.posts.lt hb h6; omega
    · rw [upN_other _ _ e] at hg
      exact (h.off a b ha hb).2 g hg
  · by_cases e : b = j
    · subst e
      rw [upN_same] at hm
      rcases k2 _ hm with ⟨i, hi, h5⟩ | ⟨h5, _⟩
      · exact h.roff a i ha hi h5
      · have := (h.refs a ha).lt; omega
    · rw [upN_other _ _ e] at hm
      exact h.roff a b ha hb hm
  · by_cases e : i = j
    · subst e
      rw [upN_same] at hg
      rcases k2 g hg with ⟨a, ha, h5⟩ | ⟨_, h5⟩
      · exact Nat.lt_of_lt_of_le (h.lt a ha g h5) k3.size
      · exact h5
    · rw [upN_other _ _ e] at hg
      exact Nat.lt_of_lt_of_le (h.lt i hi g hg) k3.size
  · obtain ⟨s1, s2, s3, s4⟩ := h.side g hg
    refine ⟨Nat.lt_of_lt_of_le s1 k3.size, s2, s3, fun i hi => ⟨(s4 i hi).1, fun hm => ?_⟩⟩
    by_cases e : i = j
    · subst e
      rw [upN_same] at hm
      rcases k2 g hm with ⟨a, ha, h5⟩ | ⟨h5, _⟩
      · exact (s4 a ha).2 h5
      · omega
    · rw [upN_other _ _ e] at hm; exact (s4 i hi).2 hm
/-- A new post of the reference, at a place j: its rows are old ones, or new. -/
theorem Duo.rput (h : Duo base w m P n B r R k C X F G) {r' j : Nat} (hr : ∀ i, i < r' → i = j ∨ i < r) {c : Book} (hc : BookOk c) {R' k' : Nat} {G' : List Nat} (hk : k' < 4) (k1 : RpAt w' R' k' G' c) (hR : w.heap.size ≤ R') (hRG : R' ∉ G') (k2 : ∀ g ∈ G', (∃ i, i < r ∧ g ∈ G i) ∨ (w.heap.size ≤ g ∧ g < w'.heap.size)) (hb : Below w.heap.size w w') :
    DuoL base w' X m P n B r' (upN R j R') (upN k j k') (upN C j c) ∧ Kid base w w' := by
  have hP : ∀ i, i < r' → i ≠ j → i < r := fun i hi he => (hr i hi).resolve_left he
  have hlt : ∀ i, i < r → ∀ g ∈ G i, g ≠ R' := fun i hi g hg e => by have := h.lt i hi g hg; omega
  refine ⟨⟨F, upN G j G', h.posts.below hb, h.low, h.ok, fun i hi => ?_, fun i hi => ?_, fun i hi => ?_, fun a b ha hb2 hab => ?_, fun a b ha hb2 => ?_, fun a b ha hb2 hm => ?_, fun i hi g hg => ?_, fun i hi => ?_, Nat.le_trans h.size hb.size, fun g hg => ?_⟩, Kid.of_below hb⟩
  · by_cases e : i = j
    · subst e; simp only [upN_same]; exact k1
    · simp only [upN_other _ _ e]; exact (h.refs i (hP i hi e)).below hb
  · by_cases e : i = j
    · subst e; rw [upN_same]; exact Nat.le_trans h.size hR
    · rw [upN_other _ _ e]; exact h.rlow i (hP i hi e)
  · by_cases e : i = j
    · subst e; rw [upN_same, upN_same]; exact ⟨hc, hk⟩
    · rw [upN_other _ _ e, upN_other _ _ e]; exact h.rok i (hP i hi e)
  · by_cases ea : a = j
    · subst ea
      rw [upN_same, upN_other _ _ (Ne.symm hab)]
      have := (h.refs b (hP b hb2 (Ne.symm hab))).lt
      omega
    · by_cases eb : b = j
      · subst eb
        rw [upN_same, upN_other _ _ ea]
        have := (h.refs a (hP a ha ea)).lt
        omega
      · rw [upN_other _ _ ea, upN_other _ _ eb]
        exact h.one a b (hP a ha ea) (hP b hb2 eb) hab
  · by_cases e : a = j
    · subst e
      rw [upN_same, upN_same]
      refine ⟨fun h2 => ?_, fun g hg h2 => ?_⟩
      · have := h.posts.lt hb2 h2
        omega
      · rcases k2 g hg with ⟨i, hi, h5⟩ | ⟨h5, _⟩
        · exact (h.off i b hi hb2).2 g h5 h2
        · have := h.posts.lt hb2 h2; omega
    · rw [upN_other _ _ e, upN_other _ _ e]; exact h.off a b (hP a ha e) hb2
  · by_cases ea : a = j
    · subst ea
      rw [upN_same] at hm
      by_cases eb : b = a
      · subst eb; rw [upN_same] at hm; exact hRG hm
      · rw [upN_other _ _ eb] at hm; exact hlt b (hP b hb2 eb) _ hm rfl
    · rw [upN_other _ _ ea] at hm
      by_cases eb : b = j
      · subst eb
        rw [upN_same] at hm
        rcases k2 _ hm with ⟨i, hi, h5⟩ | ⟨h5, _⟩
        · exact h.roff a i (hP a ha ea) hi h5
        · have := (h.refs a (hP a ha ea)).lt; omega
      · rw [upN_other _ _ eb] at hm
        exact h.roff a b (hP a ha ea) (hP b hb2 eb) hm
  · by_cases e : i = j
    · subst e
      rw [upN_same] at hg
      rcases k2 g hg with ⟨a, ha, h5⟩ | ⟨_, h5⟩
      · exact Nat.lt_of_lt_of_le (h.lt a ha g h5) hb.size
      · exact h5
    · rw [upN_other _ _ e] at hg
      exact Nat.lt_of_lt_of_le (h.lt i (hP i hi e) g hg) hb.size
  · by_cases e : i = j
    · subst e
      rw [upN_same]
      intro hv
      have := h.posts.vars.lt hv
      omega
    · rw [upN_other _ _ e]; exact h.free i (hP i hi e)
  · obtain ⟨s1, s2, s3, s4⟩ := h.side g hg
    refine ⟨Nat.lt_of_lt_of_le s1 hb.size, s2, s3, fun i hi => ?_⟩
    by_cases e : i = j
    · subst e
      rw [upN_same, upN_same]
      refine ⟨by omega, fun hm => ?_⟩
      rcases k2 g hm with ⟨a, ha, h5⟩ | ⟨h5, _⟩
      · exact (s4 a ha).2 h5
      · omega
    · rw [upN_other _ _ e, upN_other _ _ e]; exact s4 i (hP i hi e)
/-- A new block lies aside. -/
theorem DuoL.alloc (h : DuoL base w X m P n B r R k C) (o : Obj) : DuoL base (w.alloc o) (w.heap.size :: X) m P n B r R k C := by
  have hb : Below w.heap.size w (w.alloc o) := (Below.refl _ w).alloc (Nat.le_refl _) o
  obtain ⟨F, G, h0⟩ := h
  obtain ⟨F', G', h1⟩ : DuoL base (w.alloc o) X m P n B r R k C := DuoL.below ⟨F, G, h0⟩ hb
  refine ⟨F, G, h0.posts.below hb, h0.low, h0.ok, fun j hj => (h0.refs j hj).below hb, h0.rlow, h0.rok, h0.one, h0.off, h0.roff, fun j hj g hg => Nat.lt_of_lt_of_le (h0.lt j hj g hg) hb.size, h0.free, Nat.le_trans h0.size hb.size, fun g hg => ?_⟩
  rcases List.mem_cons.1 hg with rfl | hg
  · refine ⟨by simp, fun hv => ?_, fun i hi hm => ?_, fun j hj => ⟨fun e => ?_, fun hm => ?_⟩⟩
    · have := h0.posts.vars.lt hv; omega
    · have := h0.posts.lt hi hm; omega
    · have := (h0.refs j hj).lt; omega
    · have := h0.lt j hj _ hm; omega
  · obtain ⟨s1, s2⟩ := h0.side g hg
    exact ⟨Nat.lt_of_lt_of_le s1 hb.size, s2⟩
/-- What lies aside may turn. -/
theorem DuoL.aside (h : DuoL base w X m P n B r R k C) {g : Nat} (hg : g ∈ X) (hsz : w.heap.size ≤ w'.heap.size) (hk : ∀ j, j < w.heap.size → j ≠ g → w'.heap[j]? = w.heap[j]?) : DuoL base w' X m P n B r R k C := by
  obtain ⟨F, G, h0⟩ := h
  obtain ⟨s1, s2, s3, s4⟩ := h0.side g hg
  refine ⟨F, G, h0.posts.keep (fun j hj => hk j (h0.posts.vars.lt hj) fun e => s2 (e ▸ hj)) (fun i hi j hj => hk j (h0.posts.lt hi hj) fun e => s3 i hi (e ▸ hj)), h0.low, h0.ok, fun j hj => (h0.refs j hj).keep (hk _ (h0.refs j hj).lt fun e => (s4 j hj).1 e.symm) (fun q hq hlt => hk q hlt fun e => (s4 j hj).2 (e ▸ hq)), h0.rlow, h0.rok, h0.one, h0.off, h0.roff, fun j hj q hq => Nat.lt_of_lt_of_le (h0.lt j hj q hq) hsz, h0.free, Nat.le_trans h0.size hsz, fun q hq => ?_⟩
  obtain ⟨t1, t2⟩ := h0.side q hq
  exact ⟨Nat.lt_of_lt_of_le t1 hsz, t2⟩
end
end Go.Proofs.YtdfkaijeppdhaaaGreatDoor
