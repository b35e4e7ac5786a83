/- Contract of the reference: Join (Post). -/
import Derived.Test.YtdfkaijeppdhaaaGreatDoorSe
import Derived.Test.YtdfkaijeppdhaaaGreatDoorSa
import Derived.Test.YtdfkaijeppdhaaaGreatDoorDu
import Derived.Deep.AppendLies
import Derived.Deep.RegionLaw
namespace Go.Proofs.YtdfkaijeppdhaaaGreatDoor
open Go.RowKit Go.Shelf

/-- An operation of a region that draws its order, taken first, whatever its value. -/
theorem takeY {P : Program} {ops : Array Oper} {Q : Exit → Act → World → Prop} {md : Region.Mode} {S : World → Prop} {i : Nat} {oi : Oper} {fuel : Nat} {listed : Array Bool} {a : Act} {w : World} (hi : ops[i]? = some oi)
    (hs : Region.noSelect ops = true) (hf : Region.free md ops listed i = true) (hr : (Region.ready md ops listed).contains i = true)
    (hQ : ∀ v c a w, Q (.panic c) (a.put oi.dst v) w → Q (.panic c) a w) (hw : Region.wanted oi (yielded ops a.tmps) = true) (hS : S w)
    (h : ∃ v, (∀ W, S W → (execOp a.eval oi).run P W = .ok (.value v) W) ∧ wpAnyH P md ops Q S fuel (listed.setIfInBounds i true) (a.put oi.dst v) w) : wpAnyH P md ops Q S (fuel + 1) listed a w := by
  obtain ⟨v, h1, h2⟩ := h
  exact wpAnyH_take hi hs hf hr (hQ v) (Or.inl ⟨hw, h1⟩) hS h2
/-- The blocks of a book's rows. -/
def gBlk (b : Book) (vs : Nat → Value) : List Nat := (List.range 4).flatMap fun i => if 0 < (b i).length then (vs i).ownBlock.toList else []
theorem mem_gBlk {b : Book} {vs : Nat → Value} {k : Nat} : k ∈ gBlk b vs ↔ ∃ i, i < 4 ∧ 0 < (b i).length ∧ (vs i).ownBlock = some k := by
  unfold gBlk
  simp only [List.mem_flatMap, List.mem_range]
  constructor
  · rintro ⟨i, hi, h⟩
    split at h
    · exact ⟨i, hi, by assumption, by simpa using h⟩
    · simp at h
  · rintro ⟨i, hi, h1, h2⟩
    exact ⟨i, hi, by rw [if_pos h1]; simpa using h2⟩
theorem RfAt.rp {w : World} {P n : Nat} {vs : Nat → Value} {b : Book} (h : RfAt w P n vs b) : RpAt w P n (gBlk b vs) b := ⟨vs, h, fun i hi h0 k hk => mem_gBlk.2 ⟨i, hi, h0, hk⟩⟩
/-- The rows of a post are old ones, or new. -/
def Rows2 (w w' : World) (b c : Book) (vs us : Nat → Value) : Prop := ∀ i, i < 4 → 0 < (c i).length → ∀ g, (us i).ownBlock = some g → (∃ j, j < 4 ∧ 0 < (b j).length ∧ (vs j).ownBlock = some g) ∨ (w.heap.size ≤ g ∧ g < w'.heap.size)
/-- What Join hands back, and what becomes of the post. -/
def RJoinPost (P n : Nat) (vs : Nat → Value) (b b2 : Book) (w : World) (e : Ending) (w' : World) : Prop :=
  e = .returned (.bool (decide ((joinV b b2).1 = 0))) ∧ ∃ us, RfAt w' P n us (joinV b b2).2 ∧ Rows2 w w' b (joinV b b2).2 vs us ∧ Off [P] w w'
theorem joinV_no {b b2 : Book} {k : Nat} (hk : k < 4) (h : fitL (b k) (b2 k) = false) : joinV b b2 = (102, b) := by
  unfold joinV
  rw [joinB_no hk h]
theorem joinV_of {b b2 : Book} (h : ∀ i, i < 4 → fitL (b i) (b2 i) = true) : joinV b b2 = (0, joinL b b2) := by
  unfold joinV
  rw [joinB_of h]
/-- The book when the first k lists are joined. -/
def joinK (b b2 : Book) (k : Nat) : Book := fun i => if i < k then joinL b b2 i else b i
structure JnR (P n : Nat) (vs vs2 : Nat → Value) (b b2 : Book) (w : World) (k : Nat) (us : Nat → Value) (wr : World) : Prop where
  post : RfAt wr P n us (joinK b b2 k)
  rows : Rows2 w wr b (joinK b b2 k) vs us
  off : Off [P] (w.alloc (.cells #[vs2 0, vs2 1, vs2 2, vs2 3] 52)) wr
theorem own_none (w : World) (e : TypeId) (base size : Nat) {g : Nat} (h : w.heap[g]? = some (.cells #[] e (0, 0))) (hb : base ≤ g) : w.ownsRow base e size (.slice (some ⟨g, 0, none⟩) 0 0) 0 [] :=
  ⟨by simp, .inr ⟨g, 0, #[], rfl, hb, h, Nat.le_refl _, Nat.zero_le _, by simp, by simp⟩⟩
theorem EntsAt.news {w : World} {g off cap : Nat} {l : List Ent} (h : EntsAt w (.slice (some ⟨g, off, none⟩) l.length cap) l) : ∀ j u, (rowE l)[j]? = some u → w.cell? ((⟨g, off, none⟩ : Addr).add j) = some u := by
  intro j u hj
  have hjl := (List.getElem?_eq_some_iff.1 hj).1
  rw [rowE_len] at hjl
  have h0 : 0 < l.length := by omega
  obtain ⟨a, cap', hv, _, hh⟩ := h
  obtain ⟨g', o', ha, hc⟩ := hh h0
  simp only [Value.slice.injEq] at hv
  obtain ⟨rfl, _, rfl⟩ := hv
  simp only [Option.some.injEq, Addr.mk.injEq, and_true] at ha
  obtain ⟨rfl, rfl⟩ := ha
  have := hc (j / 4) (j % 4) u (Nat.mod_lt _ (by omega)) (by rw [Nat.div_add_mod' j 4]; exact hj)
  rw [Addr.add_lit]
  rw [Nat.add_assoc, Nat.div_add_mod' j 4] at this
  exact this
theorem Off.alloc {F : List Nat} {a b : World} (h : Off F a b) (o : Obj) : Off F a (b.alloc o) := h.trans (Off.of_below ((Below.refl _ _).alloc (Nat.le_refl _) o))
theorem Off.drew {F : List Nat} {a b : World} (h : Off F a b) : Off F a b.drew := h.trans (Off.of_below (Below.refl _ _).drew)
theorem Off.grown {F : List Nat} {a b c : World} (h : Off F a b) {o : Option Nat} (hg : b.grownBy c o) (ho : ∀ k, o = some k → a.heap.size ≤ k) : Off F a c :=
  ⟨hg.os.trans h.os, hg.tape.trans h.tape, hg.output.trans h.output, Nat.le_trans h.size hg.size, fun k hk hn => (hg.block k (Nat.lt_of_lt_of_le hk h.size) (fun e => by have := ho k e.symm; omega)).trans (h.block k hk hn)⟩
theorem Off.set {P : Nat} {a b : World} (h : Off [P] a b) (j : Nat) (v : Value) : Off [P] a (b.setCell ⟨P, j, none⟩ v) :=
  ⟨h.os, h.tape, h.output, by rw [World.size_setCell]; exact h.size, fun k hk hn => (Below.heap_setCell _ _ _ k (by simpa using hn)).trans (h.block k hk hn)⟩
/-- A list is stored. -/
theorem JnR.next {P n : Nat} {vs vs2 : Nat → Value} {b b2 : Book} {w wr W7 : World} {k : Nat} {us : Nat → Value} (h : JnR P n vs vs2 b b2 w k us wr) (hk : k < 4) (hPw : P < w.heap.size) (hne : ∀ i, i < 4 → 0 < (b i).length → (vs i).ownBlock ≠ some P) (hf : fitL (b k) (b2 k) = true) (hlt : (b k).length < (b2 k).length)
    {v' : Value} (hv : EntsAt W7 v' (b2 k)) (hnew : ∀ g, v'.ownBlock = some g → wr.heap.size ≤ g ∧ g < W7.heap.size) (ho : Off [] wr W7) :
    JnR P n vs vs2 b b2 w (k + 1) (setVs us k v') (W7.setCell ⟨P, 1 + k, none⟩ v') ∧ (W7.cell? ⟨P, 1 + k, none⟩ = some (us k) ∧ W7.frozen? ⟨P, 1 + k, none⟩ = false) := by
  have hPr := h.post.lt
  have hwr : w.heap.size + 1 ≤ wr.heap.size := by have := h.off.size; simpa using this
  have hsz := ho.size
  have hP7 : W7.heap[P]? = some (.cells #[.int .i64 n, us 0, us 1, us 2, us 3] 54 (0, 0)) := (ho.block P hPr (by simp)).trans h.post.1
  have hjk : joinK b b2 (k + 1) k = b2 k := by
    unfold joinK joinL
    rw [if_pos (by omega), longL_fit hf, if_pos hlt]
  have hjo : ∀ i, i ≠ k → joinK b b2 (k + 1) i = joinK b b2 k i := fun i hi => by
    unfold joinK
    by_cases h1 : i < k
    · rw [if_pos h1, if_pos (by omega)]
    · rw [if_neg h1, if_neg (by omega)]
  have hown : ∀ i, i < 4 → 0 < (joinK b b2 k i).length → ∀ g, (us i).ownBlock = some g → g ≠ P := fun i hi h0 g hg e => by
    subst e
    rcases h.rows i hi h0 g hg with ⟨j, hj, h1, h2⟩ | ⟨h1, _⟩
    · exact hne j hj h1 h2
    · omega
  refine ⟨⟨⟨?_, fun i hi => ?_⟩, fun i hi h0 g hg => ?_, ?_⟩, ⟨?_, by simp [World.frozen?, hP7]⟩⟩
  · rw [setCell_five hP7]
    congr 1
    unfold setVs
    rcases (show k = 0 ∨ k = 1 ∨ k = 2 ∨ k = 3 by omega) with rfl | rfl | rfl | rfl <;> simp
  · by_cases e : i = k
    · subst e
      rw [setVs_same, hjk]
      exact hv.keep fun _ g hg => Below.heap_setCell _ _ _ g (by have := hnew g hg; show g ≠ P; omega)
    · rw [setVs_other _ _ e, hjo i e]
      refine (h.post.2 i hi).keep fun h0 g hg => ?_
      have hgl := (h.post.2 i hi).lt h0 hg
      exact (Below.heap_setCell _ _ _ g (hown i hi h0 g hg)).trans (ho.block g hgl (by simp))
  · by_cases e : i = k
    · subst e
      rw [setVs_same] at hg
      have := hnew g hg
      refine .inr ⟨by omega, ?_⟩
      rw [World.size_setCell]; omega
    · rw [setVs_other _ _ e] at hg
      rw [hjo i e] at h0
      rcases h.rows i hi h0 g hg with h1 | ⟨h1, h2⟩
      · exact .inl h1
      · refine .inr ⟨h1, ?_⟩
        rw [World.size_setCell]; omega
  · exact (h.off.trans (ho.mono fun k hk => by simp at hk)).set _ _
  · rcases (show k = 0 ∨ k = 1 ∨ k = 2 ∨ k = 3 by omega) with rfl | rfl | rfl | rfl <;> exact heap_cell hP7 rfl
theorem JnR.below {P n : Nat} {vs vs2 : Nat → Value} {b b2 : Book} {w wr w' : World} {k : Nat} {us : Nat → Value} (h : JnR P n vs vs2 b b2 w k us wr) (hb : Below wr.heap.size wr w') : JnR P n vs vs2 b b2 w k us w' := by
  have hsz := hb.size
  refine ⟨⟨(hb.block _ h.post.lt).trans h.post.1, fun i hi => (h.post.2 i hi).below hb⟩, fun i hi h0 g hg => ?_, h.off.trans (Off.of_below hb)⟩
  rcases h.rows i hi h0 g hg with h1 | ⟨h1, h2⟩
  · exact .inl h1
  · exact .inr ⟨h1, by omega⟩
theorem wp_forget1 {P : Program} {c : Code} {Q : Exit → Act → World → Prop} {a : Act} {w0 : World} {n : Nat} (h : ∀ W, Below w0.heap.size w0 W → Code.wp P c Q a W) : Code.wp P c Q a (w0.drewN n) := h _ (belowD (Below.refl _ _) _)
/-- A list is left. -/
theorem JnR.skip {P n : Nat} {vs vs2 : Nat → Value} {b b2 : Book} {w wr : World} {k : Nat} {us : Nat → Value} (h : JnR P n vs vs2 b b2 w k us wr) (hf : fitL (b k) (b2 k) = true) (hlt : ¬ (b k).length < (b2 k).length) (q : Nat) : JnR P n vs vs2 b b2 w (k + 1) us (wr.drewN q) := by
  have hj : ∀ i, joinK b b2 (k + 1) i = joinK b b2 k i := fun i => by
    unfold joinK
    by_cases h1 : i < k
    · rw [if_pos h1, if_pos (by omega)]
    · rw [if_neg h1]
      by_cases h2 : i = k
      · subst h2
        rw [if_pos (by omega)]
        unfold joinL
        rw [longL_fit hf, if_neg hlt]
      · rw [if_neg (by omega)]
  have hb : Below wr.heap.size wr (wr.drewN q) := belowD (Below.refl _ _) q
  have hsz := hb.size
  refine ⟨⟨(hb.block _ h.post.lt).trans h.post.1, fun i hi => ?_⟩, fun i hi h0 g hg => ?_, h.off.trans (Off.of_below hb)⟩
  · rw [hj]; exact (h.post.2 i hi).below hb
  · rw [hj] at h0
    rcases h.rows i hi h0 g hg with h1 | ⟨h1, h2⟩
    · exact .inl h1
    · exact .inr ⟨h1, by omega⟩
end Go.Proofs.YtdfkaijeppdhaaaGreatDoor
