/- How entries, books and posts lie in memory; what blocks they stand on. -/
import Derived.Test.YtdfkaijeppdhaaaGreatDoorEn
import Derived.WalkKit
import Derived.WalkSpells
import Derived.WalkLawsBesides
import Derived.Lib.Hide
namespace Go.Proofs.YtdfkaijeppdhaaaGreatDoor
open Go.RowKit

theorem keep_cell {w w' : World} (hb : Below w.heap.size w w') {a : Addr} {v : Value} (h : w.cell? a = some v) : w'.cell? a = some v :=
  (hb.cell (World.block_lt_of_cell? _ _ h)).trans h
theorem heap_cell {X : World} {b j : Nat} {A : Array Value} {T : TypeId} {fr : Nat × Nat} {v : Value} (h : X.heap[b]? = some (.cells A T fr)) (hj : A[j]? = some v) : X.cell? ⟨b, j, none⟩ = some v := by
  simp [World.cell?, h, hj]

/-- Of what was there only the blocks of F may have turned. -/
structure Off (F : List Nat) (w w' : World) : Prop where
  os : w'.os = w.os
  tape : w'.tape = w.tape
  output : w'.output = w.output
  size : w.heap.size ≤ w'.heap.size
  block : ∀ k, k < w.heap.size → k ∉ F → w'.heap[k]? = w.heap[k]?
theorem Off.refl (F : List Nat) (w : World) : Off F w w := ⟨rfl, rfl, rfl, Nat.le_refl _, fun _ _ _ => rfl⟩
theorem Off.mono {F G : List Nat} {w w' : World} (h : Off F w w') (hs : ∀ k, k ∈ F → k ∈ G ∨ w.heap.size ≤ k) : Off G w w' :=
  ⟨h.os, h.tape, h.output, h.size, fun k h1 h2 => h.block k h1 fun h3 => (hs k h3).elim h2 (fun h4 => by omega)⟩
theorem Off.trans {F : List Nat} {a b c : World} (h : Off F a b) (k : Off F b c) : Off F a c :=
  ⟨k.os.trans h.os, k.tape.trans h.tape, k.output.trans h.output, Nat.le_trans h.size k.size, fun i h1 h2 => (k.block i (Nat.lt_of_lt_of_le h1 h.size) h2).trans (h.block i h1 h2)⟩
theorem Off.of_below {F : List Nat} {w w' : World} (h : Below w.heap.size w w') : Off F w w' := ⟨h.os, h.tape, h.output, h.size, fun k h1 _ => h.block k h1⟩
theorem Off.below {F : List Nat} {w w' : World} (h : Off F w w') {n : Nat} (hn : n ≤ w.heap.size) (hF : ∀ k ∈ F, n ≤ k) : Below n w w' :=
  ⟨h.os, h.tape, h.output, h.size, fun k hk => h.block k (by omega) fun h2 => by have := hF k h2; omega⟩

/-- The cells of entries. -/
def entC (e : Ent) : List Value := [.int .i64 (ePost e), .int .i64 (eNum e), .int .i64 (eCnt e), .string (eLine e)]
def rowE (l : List Ent) : List Value := l.flatMap entC
theorem rowE_len (l : List Ent) : (rowE l).length = l.length * 4 := by
  induction l with
  | nil => rfl
  | cons e l ih => simp only [rowE, List.flatMap_cons, List.length_append] at ih ⊢; rw [ih]; simp [entC]; omega
theorem rowE_append (l m : List Ent) : rowE (l ++ m) = rowE l ++ rowE m := by simp [rowE]
theorem rowE_at : ∀ (l : List Ent) (j c : Nat) (h : j < l.length), c < 4 → (rowE l)[j * 4 + c]? = (entC l[j])[c]?
  | e :: l, 0, c, _, hc => by
    simp only [rowE, List.flatMap_cons, Nat.zero_mul, Nat.zero_add, List.getElem_cons_zero]
    rw [List.getElem?_append_left (by simpa [entC] using hc)]
  | e :: l, j + 1, c, h, hc => by
    have h2 : j < l.length := by simpa using h
    have := rowE_at l j c h2 hc
    simp only [rowE, List.flatMap_cons, List.getElem_cons_succ] at this ⊢
    rw [List.getElem?_append_right (by simp [entC]; omega), ← this]
    congr 1
    simp [entC]; omega
/-- The value of an entry. -/
def entV (e : Ent) : Value := .agg #[.int .i64 (ePost e), .int .i64 (eNum e), .int .i64 (eCnt e), .string (eLine e)]

/-- A slice of entries, whatever lies elsewhere. -/
def EntsAt (w : World) (v : Value) (l : List Ent) : Prop :=
  ∃ (a : Option Addr) (cap : Nat), v = .slice a l.length cap ∧ l.length ≤ 9223372036854775807 ∧
    (0 < l.length → ∃ b off, a = some ⟨b, off, none⟩ ∧ ∀ j c x, c < 4 → (rowE l)[j * 4 + c]? = some x → w.cell? ⟨b, off + j * 4 + c, none⟩ = some x)
theorem EntsAt.below {w w' : World} {v : Value} {l : List Ent} (h : EntsAt w v l) (hb : Below w.heap.size w w') : EntsAt w' v l := by
  obtain ⟨a, cap, rfl, hl, h⟩ := h
  refine ⟨a, cap, rfl, hl, fun h0 => ?_⟩
  obtain ⟨b, off, ha, hc⟩ := h h0
  exact ⟨b, off, ha, fun j c x hcc hx => keep_cell hb (hc j c x hcc hx)⟩

/-- A list of a book: a row of its own. -/
def ListAt (w : World) (v : Value) (l : List Ent) : Prop := w.ownsRow 0 43 4 v l.length (rowE l)
theorem ListAt.ents {w : World} {v : Value} {l : List Ent} (h : ListAt w v l) (hl : l.length ≤ 9223372036854775807) : EntsAt w v l := by
  have hx := h.1
  rcases h.2 with ⟨rfl, h0⟩ | ⟨g, cap, cur, rfl, hrest⟩
  · exact ⟨none, 0, by rw [h0], hl, fun h1 => by omega⟩
  · refine ⟨some ⟨g, 0, none⟩, cap, rfl, hl, fun _ => ⟨g, 0, rfl, fun j c x _ hx2 => ?_⟩⟩
    have hlt : j * 4 + c < (rowE l).length := (List.getElem?_eq_some_iff.1 hx2).1
    have := h.cellAt (j * 4 + c) (by rw [rowE_len] at hlt; omega)
    rw [Nat.zero_add, this, hx2]
theorem ListAt.keep {w w' : World} {v : Value} {l : List Ent} (h : ListAt w v l) (hk : ∀ k, v.ownBlock = some k → w'.heap[k]? = w.heap[k]?) : ListAt w' v l := by
  refine ⟨h.1, ?_⟩
  rcases h.2 with hn | ⟨g, cap, cur, rfl, hbg, hg, hrest⟩
  · exact .inl hn
  · exact .inr ⟨g, cap, cur, rfl, hbg, (hk g rfl).trans hg, hrest⟩
theorem ListAt.lt {w : World} {v : Value} {l : List Ent} (h : ListAt w v l) {k : Nat} (hk : v.ownBlock = some k) : k < w.heap.size := by
  rcases h.2 with ⟨rfl, _⟩ | ⟨g, cap, cur, rfl, _, hg, _⟩
  · simp [Value.ownBlock] at hk
  · obtain rfl : g = k := by simpa [Value.ownBlock] using hk
    exact (Array.getElem?_eq_some_iff.1 hg).1

/-- The blocks of four slices. -/
def blks (v0 v1 v2 v3 : Value) : List Nat := v0.ownBlock.toList ++ (v1.ownBlock.toList ++ (v2.ownBlock.toList ++ v3.ownBlock.toList))
/-- A book in block K; F: the blocks of its lists, each its own. -/
def BookAt (w : World) (K : Nat) (F : List Nat) (b : Book) : Prop :=
  ∃ v0 v1 v2 v3 : Value, w.heap[K]? = some (.cells #[v0, v1, v2, v3] 96 (0, 0)) ∧ ListAt w v0 (b 0) ∧ ListAt w v1 (b 1) ∧ ListAt w v2 (b 2) ∧ ListAt w v3 (b 3) ∧ F = blks v0 v1 v2 v3 ∧ F.Nodup
theorem BookAt.lt {w : World} {K : Nat} {F : List Nat} {b : Book} (h : BookAt w K F b) {k : Nat} (hk : k ∈ F) : k < w.heap.size := by
  obtain ⟨v0, v1, v2, v3, _, h0, h1, h2, h3, rfl, _⟩ := h
  simp only [blks, List.mem_append, Option.mem_toList] at hk
  rcases hk with hk | hk | hk | hk
  · exact h0.lt hk
  · exact h1.lt hk
  · exact h2.lt hk
  · exact h3.lt hk
theorem BookAt.keep {w w' : World} {K : Nat} {F : List Nat} {b : Book} (h : BookAt w K F b) (hk : ∀ k, k = K ∨ k ∈ F → w'.heap[k]? = w.heap[k]?) : BookAt w' K F b := by
  obtain ⟨v0, v1, v2, v3, hK, h0, h1, h2, h3, rfl, hn⟩ := h
  exact ⟨v0, v1, v2, v3, (hk K (.inl rfl)).trans hK, h0.keep (fun k e => hk k (.inr (by simp [blks, e]))), h1.keep (fun k e => hk k (.inr (by simp [blks, e]))),
    h2.keep (fun k e => hk k (.inr (by simp [blks, e]))), h3.keep (fun k e => hk k (.inr (by simp [blks, e]))), rfl, hn⟩

/-- A post in block P with the number n; F: all blocks that it stands on. -/
def PostAt (w : World) (P : Nat) (F : List Nat) (n : Nat) (b : Book) : Prop :=
  ∃ (K : Nat) (G : List Nat), w.heap[P]? = some (.cells #[.pointer (some ⟨K, 0, none⟩), .int .i64 n] 81 (0, 0)) ∧ BookAt w K G b ∧ F = P :: K :: G
theorem PostAt.keep {w w' : World} {P n : Nat} {F : List Nat} {b : Book} (h : PostAt w P F n b) (hk : ∀ k ∈ F, w'.heap[k]? = w.heap[k]?) : PostAt w' P F n b := by
  obtain ⟨K, G, hP, hB, rfl⟩ := h
  exact ⟨K, G, (hk P (by simp)).trans hP, hB.keep (fun k hk2 => hk k (by rcases hk2 with rfl | h <;> simp [*])), rfl⟩
theorem PostAt.lt {w : World} {P n : Nat} {F : List Nat} {b : Book} (h : PostAt w P F n b) {k : Nat} (hk : k ∈ F) : k < w.heap.size := by
  obtain ⟨K, G, hP, hB, rfl⟩ := h
  rcases List.mem_cons.1 hk with rfl | hk
  · exact (Array.getElem?_eq_some_iff.1 hP).1
  · rcases List.mem_cons.1 hk with rfl | hk
    · obtain ⟨_, _, _, _, hK, _⟩ := hB
      exact (Array.getElem?_eq_some_iff.1 hK).1
    · exact hB.lt hk
/-- Another post stays where only blocks that are not its own turn. -/
theorem PostAt.off {w w' : World} {P n : Nat} {F G : List Nat} {b : Book} (h : PostAt w P F n b) (ho : Off G w w') (hd : ∀ k ∈ F, k ∉ G) : PostAt w' P F n b :=
  h.keep fun k hk => ho.block k (h.lt hk) (hd k hk)
theorem PostAt.below {w w' : World} {P n : Nat} {F : List Nat} {b : Book} (h : PostAt w P F n b) (hb : Below w.heap.size w w') : PostAt w' P F n b :=
  h.keep fun k hk => hb.block k (h.lt hk)
end Go.Proofs.YtdfkaijeppdhaaaGreatDoor
