/- The methods of posts of the program and of the reference that lie together (Post). -/
import Derived.Test.YtdfkaijeppdhaaaGreatDoorSk
import Derived.Test.YtdfkaijeppdhaaaGreatDoorSu
import Derived.Test.YtdfkaijeppdhaaaGreatDoorSv
import Derived.Test.YtdfkaijeppdhaaaGreatDoorRx
namespace Go.Proofs.YtdfkaijeppdhaaaGreatDoor
open Go.RowKit Go.Shelf

section
variable {base : Nat} {w w' : World} {m r : Nat} {P n R k : Nat → Nat} {B C : Nat → Book} {X : List Nat}
theorem DuoL.post (h : DuoL base w X m P n B r R k C) {i : Nat} (hi : i < m) : ∃ F, PostAt w (P i) F (n i) (B i) := by obtain ⟨F, G, h0⟩ := h; exact ⟨F i, h0.posts.post i hi⟩
/-- A post of the reference, its slices told. -/
theorem DuoL.ref (h : DuoL base w X m P n B r R k C) {j : Nat} (hj : j < r) : ∃ vs : Nat → Value, RfAt w (R j) (k j) vs (C j) ∧ ∀ i, i < 4 → 0 < (C j i).length → ∀ q, q < r → (vs i).ownBlock ≠ some (R q) := by
  obtain ⟨F, G, h0⟩ := h
  obtain ⟨vs, h1, h2⟩ := h0.refs j hj
  exact ⟨vs, h1, fun i hi h3 q hq e => h0.roff q j hq hj (h2 i hi h3 _ e)⟩
theorem DuoL.ptr (h : DuoL base w X m P n B r R k C) {i : Nat} (hi : i < m) : P i < w.heap.size := by
  obtain ⟨F, G, h0⟩ := h
  obtain ⟨K, Gs, h1, _⟩ := h0.posts.post i hi
  exact (Array.getElem?_eq_some_iff.1 h1).1
def TurnD (base : Nat) (X : List Nat) (m : Nat) (P n : Nat → Nat) (B : Nat → Book) (r : Nat) (R k : Nat → Nat) (C : Nat → Book) (v : Value) (w : World) (e : Ending) (w' : World) : Prop := e = .returned v ∧ DuoL base w' X m P n B r R k C ∧ Kid base w w'
theorem do_d (h : DuoL base w X m P n B r R k C) {i : Nat} (hi : i < m) (line : ByteArray) (hs : line.size ≤ 1000000) :
    Calls Tryz.prog 24 #[.pointer (some ⟨P i, 0, none⟩), .string line] w (TurnD base X m P n (upN B i (doB (B i) (n i) line).2.2) r R k C (.tuple #[.string (doB (B i) (n i) line).1, .int .i64 (doB (B i) (n i) line).2.1]) w) := by
  obtain ⟨F, G, h0⟩ := h
  have ho := h0.ok i hi
  refine (do_any (P i) (n i) ho.2 (F i) (B i) line hs w (h0.posts.post i hi) ho.1 h0.posts.vars (h0.posts.free i hi)).mono ?_
  rintro e w' ⟨rfl, F', k1, k2, k3⟩
  exact ⟨rfl, h0.turn hi (doB_ok ho.1 ho.2 line) k1 k2 k3⟩
theorem join_d (h : DuoL base w X m P n B r R k C) {i j : Nat} (hi : i < m) (hj : j < m) :
    Calls Tryz.prog 22 #[.pointer (some ⟨P i, 0, none⟩), .pointer (some ⟨P j, 0, none⟩)] w (TurnD base X m P n (upN B i (joinV (B i) (B j)).2) r R k C (.int .i64 (joinV (B i) (B j)).1) w) := by
  obtain ⟨F, G, h0⟩ := h
  refine (join_post (P i) (n i) (F i) (B i) (P j) (n j) (F j) (B j) w (h0.posts.post i hi) (h0.posts.post j hj) (h0.ok i hi).1 (h0.ok j hj).1).mono ?_
  rintro e w' ⟨rfl, F', k1, k2, k3⟩
  exact ⟨rfl, h0.turn hi (joinV_ok (h0.ok i hi).1 (h0.ok j hj).1) k1 k2 k3⟩
theorem rows_duo {F G : Nat → List Nat} (h0 : Duo base w m P n B r R k C X F G) {j : Nat} (hj : j < r) {vs us : Nat → Value} {c : Book} (h2 : ∀ i, i < 4 → 0 < (C j i).length → ∀ g, (vs i).ownBlock = some g → g ∈ G j) (hr : Rows2 w w' (C j) c vs us) :
    ∀ g ∈ gBlk c us, (∃ i, i < r ∧ g ∈ G i) ∨ (w.heap.size ≤ g ∧ g < w'.heap.size) := fun g hg => by
  obtain ⟨i, hi, h3, h4⟩ := mem_gBlk.1 hg
  rcases hr i hi h3 g h4 with ⟨q, hq, h5, h6⟩ | h5
  · exact .inl ⟨j, hj, h2 q hq h5 g h6⟩
  · exact .inr h5
theorem rdo_d (h : DuoL base w X m P n B r R k C) {j : Nat} (hj : j < r) (line : ByteArray) (hs : line.size ≤ 1000000) :
    Calls Tryz.prog 28 #[.pointer (some ⟨R j, 0, none⟩), .string line] w (TurnD base X m P n B r R k (upN C j (doB (C j) (k j) line).2.2) (.tuple #[.string (doB (C j) (k j) line).1, .int .i64 (doB (C j) (k j) line).2.1]) w) := by
  obtain ⟨F, G, h0⟩ := h
  have ho := h0.rok j hj
  obtain ⟨vs, h1, h2⟩ := h0.refs j hj
  refine (rdo_any (R j) (k j) ho.2 vs (C j) line hs w h1 ho.1 (fun i hi h3 e => h0.roff j j hj hj (h2 i hi h3 _ e))).mono ?_
  rintro e w' ⟨rfl, us, k1, k2, k3⟩
  exact ⟨rfl, h0.rturn hj (doB_ok ho.1 ho.2 line) k1.rp (rows_duo h0 hj h2 k2) k3⟩
theorem rjoin_d (h : DuoL base w X m P n B r R k C) {j l : Nat} (hj : j < r) (hl : l < r) : ∃ vs : Nat → Value, RfAt w (R l) (k l) vs (C l) ∧
    Calls Tryz.prog 27 #[.pointer (some ⟨R j, 0, none⟩), .agg #[vs 0, vs 1, vs 2, vs 3]] w (TurnD base X m P n B r R k (upN C j (joinV (C j) (C l)).2) (.bool (decide ((joinV (C j) (C l)).1 = 0))) w) := by
  obtain ⟨F, G, h0⟩ := h
  have ho := h0.rok j hj
  obtain ⟨vs, h1, h2⟩ := h0.refs j hj
  obtain ⟨us, h3, h4⟩ := h0.refs l hl
  refine ⟨us, h3, (rjoin_any (R j) (k j) vs (C j) us (C l) w h1 h3.2 ho.1 (h0.rok l hl).1 (fun i hi h5 e => h0.roff j j hj hj (h2 i hi h5 _ e)) (fun i hi h5 e => h0.roff j l hj hl (h4 i hi h5 _ e))).mono ?_⟩
  rintro e w' ⟨rfl, us', k1, k2, k3⟩
  exact ⟨rfl, h0.rturn hj (joinV_ok ho.1 (h0.rok l hl).1) k1.rp (rows_duo h0 hj h2 k2) k3⟩
theorem new_d (h : DuoL base w X m P n B r R k C) {m' i : Nat} (hm : ∀ j, j < m' → j = i ∨ j < m) (q : Nat) (hq : q < 4) :
    Calls Tryz.prog 34 #[.int .i64 q] w fun e w' => ∃ P', e = .returned (.tuple #[.pointer (some ⟨P', 0, none⟩), .int .i64 0]) ∧ DuoL base w' X m' (upN P i P') (upN n i q) (upN B i empB) r R k C ∧ Below w.heap.size w w' := by
  obtain ⟨F, G, h0⟩ := h
  refine (new_any q hq w).mono ?_
  rintro e w' ⟨rfl, rfl⟩
  have hb : Below w.heap.size w ((w.alloc (.cells #[.slice none 0 0, .slice none 0 0, .slice none 0 0, .slice none 0 0] 96)).alloc (.cells #[.pointer (some ⟨w.heap.size, 0, none⟩), .int .i64 q] 81)) := ((Below.refl _ _).alloc (Nat.le_refl _) _).alloc (by simp) _
  exact ⟨_, rfl, (h0.put hm empB_ok hq (new_post q w) (fun g hg => .inr (by simp at hg; omega)) hb).1, hb⟩
theorem copy_d (h : DuoL base w X m P n B r R k C) {i l m' : Nat} (hi : i < m) (hm : ∀ j, j < m' → j = l ∨ j < m) :
    Calls Tryz.prog 35 #[.pointer (some ⟨P i, 0, none⟩)] w fun e w' => ∃ P', e = .returned (.pointer (some ⟨P', 0, none⟩)) ∧ DuoL base w' X m' (upN P l P') (upN n l (n i)) (upN B l (B i)) r R k C ∧ Below w.heap.size w w' := by
  obtain ⟨F, G, h0⟩ := h
  have ho := h0.ok i hi
  refine (copy_post (P i) (n i) (F i) (B i) w (h0.posts.post i hi) ho.1).mono ?_
  rintro e w' ⟨P', F', rfl, k1, k2, k3⟩
  exact ⟨P', rfl, (h0.put hm ho.1 ho.2 k1 k2 k3).1, k3⟩
theorem rnew_d (h : DuoL base w X m P n B r R k C) {r' j : Nat} (hr : ∀ i, i < r' → i = j ∨ i < r) (q : Nat) (hq : q < 4) :
    Calls Tryz.prog 46 #[.int .i64 q] w fun e w' => ∃ R', e = .returned (.pointer (some ⟨R', 0, none⟩)) ∧ DuoL base w' X m P n B r' (upN R j R') (upN k j q) (upN C j empB) ∧ Below w.heap.size w w' := by
  obtain ⟨F, G, h0⟩ := h
  refine (rnew_any q w).mono ?_
  rintro e w' ⟨rfl, rfl⟩
  have hb : Below w.heap.size w (w.alloc (.cells #[.int .i64 q, .slice none 0 0, .slice none 0 0, .slice none 0 0, .slice none 0 0] 54)) := (Below.refl _ _).alloc (Nat.le_refl _) _
  have hrf : RfAt (w.alloc (.cells #[.int .i64 q, .slice none 0 0, .slice none 0 0, .slice none 0 0, .slice none 0 0] 54)) w.heap.size q (fun _ => .slice none 0 0) empB :=
    ⟨World.alloc_heap_new w _, fun i hi => (listAt_nil _).ents (Nat.zero_le _)⟩
  have hg : gBlk empB (fun _ => .slice none 0 0) = [] := by
    apply List.eq_nil_iff_forall_not_mem.2
    intro g hg
    obtain ⟨i, _, h3, _⟩ := mem_gBlk.1 hg
    exact absurd h3 (Nat.lt_irrefl 0)
  refine ⟨_, rfl, (h0.rput hr empB_ok hq hrf.rp (Nat.le_refl _) (by rw [hg]; simp) (by rw [hg]; simp) hb).1, hb⟩
/-- A copy of a post of the reference: a new block with the same slices. -/
theorem rcopy_d (h : DuoL base w X m P n B r R k C) {j l r' : Nat} (hj : j < r) (hr : ∀ i, i < r' → i = l ∨ i < r) {vs : Nat → Value} (hv : RfAt w (R j) (k j) vs (C j)) :
    DuoL base (w.alloc (.cells #[.int .i64 (k j : Nat), vs 0, vs 1, vs 2, vs 3] 54)) X m P n B r' (upN R l w.heap.size) (upN k l (k j)) (upN C l (C j)) := by
  obtain ⟨F, G, h0⟩ := h
  obtain ⟨us, h1, h2⟩ := h0.refs j hj
  have ho := h0.rok j hj
  have e := h1.1
  rw [hv.1] at e
  simp only [Option.some.injEq, Obj.cells.injEq] at e
  have e1 := e.1
  simp only [Array.mk.injEq, List.cons.injEq, and_true, true_and] at e1
  have ev : ∀ i, i < 4 → vs i = us i := fun i hi => by
    rcases (show i = 0 ∨ i = 1 ∨ i = 2 ∨ i = 3 by omega) with rfl | rfl | rfl | rfl
    · exact e1.1
    · exact e1.2.1
    · exact e1.2.2.1
    · exact e1.2.2.2
  have hb : Below w.heap.size w (w.alloc (.cells #[.int .i64 (k j : Nat), vs 0, vs 1, vs 2, vs 3] 54)) := (Below.refl _ _).alloc (Nat.le_refl _) _
  have hrf : RfAt (w.alloc (.cells #[.int .i64 (k j : Nat), vs 0, vs 1, vs 2, vs 3] 54)) w.heap.size (k j) vs (C j) := ⟨World.alloc_heap_new w _, fun i hi => (hv.2 i hi).below hb⟩
  refine (h0.rput (G' := gBlk (C j) vs) hr ho.1 ho.2 hrf.rp (Nat.le_refl _) (fun hm => ?_) (fun g hg => ?_) hb).1
  · obtain ⟨i, hi, h3, h4⟩ := mem_gBlk.1 hm
    have := (hv.2 i hi).lt h3 h4
    omega
  · obtain ⟨i, hi, h3, h4⟩ := mem_gBlk.1 hg
    rw [ev i hi] at h4
    exact .inl ⟨j, hj, h2 i hi h3 g h4⟩
/-- What reads, and turns nothing. -/
theorem text_d (h : DuoL base w X m P n B r R k C) {i : Nat} (hi : i < m) : Calls Tryz.prog 29 #[.pointer (some ⟨P i, 0, none⟩)] w (StrPost (textB (B i)) w) := by
  obtain ⟨F, h1⟩ := h.post hi
  exact text_post _ _ _ _ w h1 (h.ok hi) h.vars
theorem rtext_d (h : DuoL base w X m P n B r R k C) {j : Nat} (hj : j < r) : Calls Tryz.prog 30 #[.pointer (some ⟨R j, 0, none⟩)] w (StrPost (textB (C j)) w) := by
  obtain ⟨vs, h1, _⟩ := h.ref hj
  exact rtext_any _ _ vs _ w h1 (h.rok hj)
theorem since_d (h : DuoL base w X m P n B r R k C) {i : Nat} (hi : i < m) (s0 s1 s2 s3 : Int) (seen : Nat → Int) (hs : seen 0 = s0 ∧ seen 1 = s1 ∧ seen 2 = s2 ∧ seen 3 = s3) :
    Calls Tryz.prog 32 #[.pointer (some ⟨P i, 0, none⟩), .agg #[.int .i64 s0, .int .i64 s1, .int .i64 s2, .int .i64 s3]] w (SincePost (sinceB (B i) seen) w) := by
  obtain ⟨F, h1⟩ := h.post hi
  exact since_post _ _ _ _ s0 s1 s2 s3 seen hs w h1 (h.ok hi)
theorem rsince_d (h : DuoL base w X m P n B r R k C) {j : Nat} (hj : j < r) (s0 s1 s2 s3 : Int) (seen : Nat → Int) (hs : seen 0 = s0 ∧ seen 1 = s1 ∧ seen 2 = s2 ∧ seen 3 = s3) :
    Calls Tryz.prog 33 #[.pointer (some ⟨R j, 0, none⟩), .agg #[.int .i64 s0, .int .i64 s1, .int .i64 s2, .int .i64 s3]] w (SincePost (sinceB (C j) seen) w) := by
  obtain ⟨vs, h1, _⟩ := h.ref hj
  exact rsince_any _ _ vs _ s0 s1 s2 s3 seen hs w h1 (h.rok hj)
theorem book_d (h : DuoL base w X m P n B r R k C) {i : Nat} (hi : i < m) : Calls Tryz.prog 25 #[.pointer (some ⟨P i, 0, none⟩)] w (SincePost (allB (B i)) w) := by
  obtain ⟨F, h1⟩ := h.post hi
  exact book_post _ _ _ _ w h1 (h.ok hi)
theorem rbook_d (h : DuoL base w X m P n B r R k C) {j : Nat} (hj : j < r) : Calls Tryz.prog 42 #[.pointer (some ⟨R j, 0, none⟩)] w (SincePost (allB (C j)) w) := by
  obtain ⟨vs, h1, _⟩ := h.ref hj
  exact rbook_any _ _ vs _ w h1 (h.rok hj)
theorem count_d (h : DuoL base w X m P n B r R k C) {i : Nat} (hi : i < m) : Calls Tryz.prog 23 #[.pointer (some ⟨P i, 0, none⟩)] w fun e w' => e = .returned (.int .i64 (cntB (B i))) ∧ w = w' := by
  obtain ⟨F, h1⟩ := h.post hi
  exact count_post _ _ _ _ w h1 (h.ok hi)
theorem rcount_d (h : DuoL base w X m P n B r R k C) {j : Nat} (hj : j < r) : Calls Tryz.prog 61 #[.pointer (some ⟨R j, 0, none⟩)] w fun e w' => e = .returned (.int .i64 (cntB (C j))) ∧ w = w' := by
  obtain ⟨vs, h1, _⟩ := h.ref hj
  exact rcount_any _ _ vs _ w h1 (h.rok hj)
theorem number_d (h : DuoL base w X m P n B r R k C) {i : Nat} (hi : i < m) : Calls Tryz.prog 38 #[.pointer (some ⟨P i, 0, none⟩)] w fun e w' => e = .returned (.int .i64 (n i : Nat)) ∧ w = w' := by
  obtain ⟨F, h1⟩ := h.post hi
  exact number_post _ _ _ _ w h1
theorem seen_d (h : DuoL base w X m P n B r R k C) {i : Nat} (hi : i < m) : Calls Tryz.prog 21 #[.pointer (some ⟨P i, 0, none⟩)] w (SeenPost (B i) w) := by
  obtain ⟨F, h1⟩ := h.post hi
  exact seen_post _ _ _ _ w h1 (h.ok hi)
theorem rseen_d (h : DuoL base w X m P n B r R k C) {j : Nat} (hj : j < r) : Calls Tryz.prog 79 #[.pointer (some ⟨R j, 0, none⟩)] w (SeenPost (C j) w) := by
  obtain ⟨vs, h1, _⟩ := h.ref hj
  exact rseen_any _ _ vs _ w h1 (h.rok hj)
theorem same_d (h : DuoL base w X m P n B r R k C) {i j : Nat} (hi : i < m) (hj : j < m) : Calls Tryz.prog 37 #[.pointer (some ⟨P i, 0, none⟩), .pointer (some ⟨P j, 0, none⟩)] w (BoolPost (decide (textB (B i) = textB (B j))) w) := by
  obtain ⟨F, h1⟩ := h.post hi
  obtain ⟨F2, h2⟩ := h.post hj
  exact same_post _ _ _ _ _ _ _ _ w h1 h2 (h.ok hi) (h.ok hj) h.vars
theorem DuoL.congr {P' n' R' k' : Nat → Nat} {B' C' : Nat → Book} (h : DuoL base w X m P n B r R k C) (hp : ∀ i, i < m → P i = P' i ∧ n i = n' i ∧ B i = B' i) (hr : ∀ j, j < r → R j = R' j ∧ k j = k' j ∧ C j = C' j) : DuoL base w X m P' n' B' r R' k' C' := by
  obtain ⟨F, G, h0⟩ := h
  refine ⟨F, G, ⟨h0.posts.vars, fun i hi => ?_, h0.posts.apart, h0.posts.free⟩, h0.low, fun i hi => ?_, fun j hj => ?_, fun j hj => ?_, fun j hj => ?_, fun i j hi hj hij => ?_, fun j i hj hi => ?_, fun i j hi hj => ?_, h0.lt, fun j hj => ?_, h0.size, fun g hg => ?_⟩
  · have h1 := h0.posts.post i hi
    obtain ⟨e1, e2, e3⟩ := hp i hi
    simp only [e1, e2, e3] at h1
    exact h1
  · have h1 := h0.ok i hi
    obtain ⟨e1, e2, e3⟩ := hp i hi
    rw [e2, e3] at h1
    exact h1
  · have h1 := h0.refs j hj
    obtain ⟨e1, e2, e3⟩ := hr j hj
    rw [e1, e2, e3] at h1
    exact h1
  · rw [← (hr j hj).1]; exact h0.rlow j hj
  · have h1 := h0.rok j hj
    obtain ⟨e1, e2, e3⟩ := hr j hj
    rw [e2, e3] at h1
    exact h1
  · rw [← (hr i hi).1, ← (hr j hj).1]; exact h0.one i j hi hj hij
  · rw [← (hr j hj).1]; exact h0.off j i hj hi
  · rw [← (hr i hi).1]; exact h0.roff i j hi hj
  · rw [← (hr j hj).1]; exact h0.free j hj
  · obtain ⟨s1, s2, s3, s4⟩ := h0.side g hg
    exact ⟨s1, s2, s3, fun j hj => by rw [← (hr j hj).1]; exact s4 j hj⟩
end
/-- An array of four pointers. -/
def ArrAt (w : World) (g : Nat) (t : TypeId) (P : Nat → Nat) : Prop := w.heap[g]? = some (.cells #[.pointer (some ⟨P 0, 0, none⟩), .pointer (some ⟨P 1, 0, none⟩), .pointer (some ⟨P 2, 0, none⟩), .pointer (some ⟨P 3, 0, none⟩)] t (0, 0))
theorem ArrAt.cell {w : World} {g : Nat} {t : TypeId} {P : Nat → Nat} (h : ArrAt w g t P) {i : Nat} (hi : i < 4) : w.cell? ⟨g, i, none⟩ = some (.pointer (some ⟨P i, 0, none⟩)) := by
  rcases (show i = 0 ∨ i = 1 ∨ i = 2 ∨ i = 3 by omega) with rfl | rfl | rfl | rfl <;> exact heap_cell h rfl
theorem ArrAt.kid {base : Nat} {w w' : World} {g : Nat} {t : TypeId} {P : Nat → Nat} (h : ArrAt w g t P) (hk : Kid base w w') (ht : ¬ isDuoT t) : ArrAt w' g t P := hk.keep h ht
theorem ArrAt.below {w w' : World} {g : Nat} {t : TypeId} {P : Nat → Nat} (h : ArrAt w g t P) (hb : Below w.heap.size w w') : ArrAt w' g t P := (hb.block g (Array.getElem?_eq_some_iff.1 h).1).trans h
theorem arrP_not : ¬ isDuoT 45 := by unfold isDuoT isPostT; decide
theorem arrR_not : ¬ isDuoT 47 := by unfold isDuoT isPostT; decide
end Go.Proofs.YtdfkaijeppdhaaaGreatDoor
