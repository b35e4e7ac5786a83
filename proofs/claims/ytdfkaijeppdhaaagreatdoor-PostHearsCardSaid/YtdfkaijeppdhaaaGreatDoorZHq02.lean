/- Texts of this claim, laid together: Bk. -/
import Derived.WalkKit
import Derived.WalkSpells
import Derived.WalkLawsBesides
import Derived.Lib.Hide
import Derived.Lib.Split
import Derived.Lib.AtoiAll
import Derived.Lib.ItoaNum
import Derived.Lib.Join

/- Texts of this claim, laid together: En, Em, Pp, Bk, Wr. -/


/- Plain: entries, their order, sorted lists of entries. -/
namespace Go.Proofs.YtdfkaijeppdhaaaGreatDoor
/-- An entry: post, number, count, line. -/
abbrev Ent := Int × Int × Int × ByteArray
def ePost (e : Ent) : Int := e.1
def eNum (e : Ent) : Int := e.2.1
def eCnt (e : Ent) : Int := e.2.2.1
def eLine (e : Ent) : ByteArray := e.2.2.2

/-- Comes before: the count, then the post. -/
def eLt (a b : Ent) : Prop := eCnt a < eCnt b ∨ (eCnt a = eCnt b ∧ ePost a < ePost b)
def eLe (a b : Ent) : Prop := eCnt a < eCnt b ∨ (eCnt a = eCnt b ∧ ePost a ≤ ePost b)
instance (a b : Ent) : Decidable (eLt a b) := inferInstanceAs (Decidable (_ ∨ _))
instance (a b : Ent) : Decidable (eLe a b) := inferInstanceAs (Decidable (_ ∨ _))
/-- The answer of order. -/
def eCmp (a b : Ent) : Int := if eLt a b then -1 else if eLt b a then 1 else 0
theorem eLt_trans {a b c : Ent} (h : eLt a b) (k : eLt b c) : eLt a c := by unfold eLt at *; omega
theorem eLt_irrefl (a : Ent) : ¬ eLt a a := by unfold eLt; omega
theorem eLt_asymm {a b : Ent} (h : eLt a b) : ¬ eLt b a := by unfold eLt at *; omega
theorem eLt_or (a b : Ent) : eLt a b ∨ eLt b a ∨ (eCnt a = eCnt b ∧ ePost a = ePost b) := by unfold eLt; omega
/-- Put an entry into its place. -/
def insE (e : Ent) : List Ent → List Ent
  | [] => [e]
  | x :: r => if eLt e x then e :: x :: r else x :: insE e r
def srtE : List Ent → List Ent
  | [] => []
  | e :: r => insE e (srtE r)
def Asc (l : List Ent) : Prop := l.Pairwise eLt
theorem insE_perm (e : Ent) : ∀ l, (insE e l).Perm (e :: l)
  | [] => .refl _
  | x :: r => by
    unfold insE
    split
    · exact .refl _
    · exact ((insE_perm e r).cons x).trans (.swap _ _ _)
theorem srtE_perm : ∀ l, (srtE l).Perm l
  | [] => .refl _
  | e :: r => (insE_perm e _).trans ((srtE_perm r).cons e)
theorem srtE_len (l : List Ent) : (srtE l).length = l.length := (srtE_perm l).length_eq
theorem srtE_mem {l : List Ent} {e : Ent} : e ∈ srtE l ↔ e ∈ l := (srtE_perm l).mem_iff
/-- No two entries of one count and post. -/
def Keys (l : List Ent) : Prop := l.Pairwise fun a b => ¬ (eCnt a = eCnt b ∧ ePost a = ePost b)
theorem insE_asc {e : Ent} : ∀ {l : List Ent}, Asc l → (∀ x ∈ l, ¬ (eCnt e = eCnt x ∧ ePost e = ePost x)) → Asc (insE e l)
  | [], _, _ => by simp [insE, Asc]
  | x :: r, h, hk => by
    unfold insE
    have hx := List.pairwise_cons.1 h
    split
    · rename_i hlt
      exact List.pairwise_cons.2 ⟨fun y hy => by
        rcases List.mem_cons.1 hy with rfl | hy
        · exact hlt
        · exact eLt_trans hlt (hx.1 y hy), h⟩
    · rename_i hnlt
      refine List.pairwise_cons.2 ⟨fun y hy => ?_, insE_asc hx.2 (fun z hz => hk z (by simp [hz]))⟩
      rcases List.mem_cons.1 ((insE_perm e r).mem_iff.1 hy) with rfl | hy
      · rcases eLt_or y x with h1 | h1 | h1
        · exact absurd h1 hnlt
        · exact h1
        · exact absurd h1 (hk x (by simp))
      · exact hx.1 y hy
theorem srtE_asc : ∀ {l : List Ent}, Keys l → Asc (srtE l)
  | [], _ => List.Pairwise.nil
  | e :: r, h => by
    have hx := List.pairwise_cons.1 h
    exact insE_asc (srtE_asc hx.2) (fun x hx2 => hx.1 x (srtE_mem.1 hx2))
/-- Two ascending lists of the same entries are one. -/
theorem asc_unique : ∀ {l m : List Ent}, Asc l → Asc m → l.Perm m → l = m
  | [], m, _, _, hp => (List.nil_perm.1 hp).symm ▸ rfl
  | a :: l, [], _, _, hp => by simpa using hp.length_eq
  | a :: l, b :: m, hl, hm, hp => by
    have h1 := List.pairwise_cons.1 hl
    have h2 := List.pairwise_cons.1 hm
    have hab : a = b := by
      rcases List.mem_cons.1 (hp.mem_iff.1 (List.mem_cons_self)) with h | h
      · exact h
      · rcases List.mem_cons.1 (hp.mem_iff.2 (List.mem_cons_self (a := b))) with k | k
        · exact k.symm
        · exact absurd (h2.1 a h) (eLt_asymm (h1.1 b k))
    subst hab
    rw [asc_unique h1.2 h2.2 (List.Perm.cons_inv hp)]
theorem srtE_unique {l m : List Ent} (hm : Asc m) (hk : Keys l) (hp : m.Perm l) : m = srtE l := asc_unique hm (srtE_asc hk) (hp.trans (srtE_perm l).symm)

abbrev Book := Nat → List Ent
def empB : Book := fun _ => []
def setB (b : Book) (i : Nat) (l : List Ent) : Book := fun j => if j = i then l else b j
theorem setB_same (b : Book) (i : Nat) (l : List Ent) : setB b i l i = l := by simp [setB]
theorem setB_other (b : Book) {i j : Nat} (l : List Ent) (h : j ≠ i) : setB b i l j = b j := by simp [setB, h]
/-- A text of printable bytes, at most 60. -/
def lineB (s : ByteArray) : Bool := decide (s.size ≤ 60) && s.data.toList.all fun c => decide (32 ≤ c.toNat) && decide (c.toNat ≤ 126)
structure ListOk (i : Nat) (l : List Ent) : Prop where
  len : l.length ≤ 60
  own : ∀ j (h : j < l.length), ePost l[j] = i ∧ eNum l[j] = j + 1 ∧ 1 ≤ eCnt l[j] ∧ eCnt l[j] ≤ 1000000 ∧ lineB (eLine l[j]) = true
  asc : l.Pairwise fun a b => eCnt a < eCnt b
/-- A valid book. -/
def BookOk (b : Book) : Prop := ∀ i, i < 4 → ListOk i (b i)
theorem listOk_nil (i : Nat) : ListOk i [] := ⟨by simp, fun j h => by simp at h, List.Pairwise.nil⟩
theorem empB_ok : BookOk empB := fun i _ => listOk_nil i
theorem ListOk.take {i : Nat} {l : List Ent} (h : ListOk i l) (k : Nat) : ListOk i (l.take k) :=
  ⟨by have := h.len; rw [List.length_take]; omega, fun j hj => by
    have hj2 : j < l.length := by rw [List.length_take] at hj; omega
    rw [List.getElem_take]; exact h.own j hj2, h.asc.sublist (List.take_sublist k l)⟩
theorem ListOk.front {i : Nat} {l m : List Ent} (h : ListOk i l) (hp : m <+: l) : ListOk i m := by
  rw [List.prefix_iff_eq_take.1 hp]; exact h.take _

/-- All entries behind those that were seen. -/
def restB (b : Book) (seen : Nat → Int) (i : Nat) : List Ent := (b i).drop (min (max 0 (seen i)) (b i).length).toNat
def catB (b : Book) (seen : Nat → Int) : List Ent := restB b seen 0 ++ (restB b seen 1 ++ (restB b seen 2 ++ restB b seen 3))
def sinceB (b : Book) (seen : Nat → Int) : List Ent := srtE (catB b seen)
def allB (b : Book) : List Ent := sinceB b fun _ => 0
theorem ListOk.mem {i : Nat} {l : List Ent} (h : ListOk i l) {e : Ent} (he : e ∈ l) : ePost e = i ∧ 1 ≤ eCnt e ∧ eCnt e ≤ 1000000 ∧ lineB (eLine e) = true := by
  obtain ⟨j, hj, rfl⟩ := List.getElem_of_mem he
  obtain ⟨h1, _, h3, h4, h5⟩ := h.own j hj
  exact ⟨h1, h3, h4, h5⟩
theorem restB_mem {b : Book} {seen : Nat → Int} {i : Nat} {e : Ent} (h : e ∈ restB b seen i) : e ∈ b i := List.mem_of_mem_drop h
theorem restB_keys {b : Book} {seen : Nat → Int} {i : Nat} (h : ListOk i (b i)) : Keys (restB b seen i) :=
  (h.asc.sublist (List.drop_sublist _ _)).imp fun hlt hk => by omega
theorem keys_append {l m : List Ent} (h1 : Keys l) (h2 : Keys m) (h3 : ∀ a ∈ l, ∀ c ∈ m, ePost a ≠ ePost c) : Keys (l ++ m) :=
  List.pairwise_append.2 ⟨h1, h2, fun a ha c hc hk => h3 a ha c hc hk.2⟩
theorem catB_keys {b : Book} (hb : BookOk b) (seen : Nat → Int) : Keys (catB b seen) := by
  have hm : ∀ i, i < 4 → ∀ e ∈ restB b seen i, ePost e = i := fun i hi e he => ((hb i hi).mem (restB_mem he)).1
  refine keys_append (restB_keys (hb 0 (by omega))) (keys_append (restB_keys (hb 1 (by omega))) (keys_append (restB_keys (hb 2 (by omega))) (restB_keys (hb 3 (by omega))) ?_) ?_) ?_
  · intro a ha c hc
    rw [hm 2 (by omega) a ha, hm 3 (by omega) c hc]; omega
  · intro a ha c hc
    rw [hm 1 (by omega) a ha]
    rcases List.mem_append.1 hc with hc | hc
    · rw [hm 2 (by omega) c hc]; omega
    · rw [hm 3 (by omega) c hc]; omega
  · intro a ha c hc
    rw [hm 0 (by omega) a ha]
    rcases List.mem_append.1 hc with hc | hc
    · rw [hm 1 (by omega) c hc]; omega
    · rcases List.mem_append.1 hc with hc | hc
      · rw [hm 2 (by omega) c hc]; omega
      · rw [hm 3 (by omega) c hc]; omega
theorem sinceB_asc {b : Book} (hb : BookOk b) (seen : Nat → Int) : Asc (sinceB b seen) := srtE_asc (catB_keys hb seen)

/-- The greatest count. -/
def lastC (l : List Ent) : Int := match l.getLast? with
  | none => 0
  | some e => eCnt e
def cntB (b : Book) : Int := max (max (max (max 0 (lastC (b 0))) (lastC (b 1))) (lastC (b 2))) (lastC (b 3))

/-- Joining: the longer list of each post, if the shorter one begins it. -/
def longL (l m : List Ent) : List Ent := if m.length < l.length then l else m
def fitL (l m : List Ent) : Bool := decide (l <+: m) || decide (m <+: l)
def joinB (b o : Book) : Option Book := if (fitL (b 0) (o 0) && fitL (b 1) (o 1) && fitL (b 2) (o 2) && fitL (b 3) (o 3)) = true then some (fun i => longL (b i) (o i)) else none
end Go.Proofs.YtdfkaijeppdhaaaGreatDoor
/- How entries, books and posts lie in memory; what blocks they stand on. -/
namespace Go.Proofs.YtdfkaijeppdhaaaGreatDoor
open Go.RowKit
theorem keep_cell {w w' : World} (hb : Below w.heap.size w w') {a : Addr} {v : Value} (h : w.cell? a = some v) : w'.cell? a = some v :=
  (hb.cell (World.block_lt_of_cell? _ _ h)).trans h
theorem heap_cell {X : World} {b j : Nat} {A : Array Value} {T : TypeId} {fr : Nat × Nat} {v : Value} (h : X.heap[b]? = some (.cells A T fr)) (hj : A[j]? = some v) : X.cell? ⟨b, j, none⟩ = some v := by
  simp [World.cell?, h, hj]

/-- Of what was there only the blocks of F may have turned. -/
structure Off (F : List Nat) (w w' : World) : Prop where
  os : w'.os = w.os
  tape : w'.tape = w.tape
  output : w'.output = w.output
  size : w.heap.size ≤ w'.heap.size
  block : ∀ k, k < w.heap.size → k ∉ F → w'.heap[k]? = w.heap[k]?
theorem Off.refl (F : List Nat) (w : World) : Off F w w := ⟨rfl, rfl, rfl, Nat.le_refl _, fun _ _ _ => rfl⟩
theorem Off.mono {F G : List Nat} {w w' : World} (h : Off F w w') (hs : ∀ k, k ∈ F → k ∈ G ∨ w.heap.size ≤ k) : Off G w w' :=
  ⟨h.os, h.tape, h.output, h.size, fun k h1 h2 => h.block k h1 fun h3 => (hs k h3).elim h2 (fun h4 => by omega)⟩
theorem Off.trans {F : List Nat} {a b c : World} (h : Off F a b) (k : Off F b c) : Off F a c :=
  ⟨k.os.trans h.os, k.tape.trans h.tape, k.output.trans h.output, Nat.le_trans h.size k.size, fun i h1 h2 => (k.block i (Nat.lt_of_lt_of_le h1 h.size) h2).trans (h.block i h1 h2)⟩
theorem Off.of_below {F : List Nat} {w w' : World} (h : Below w.heap.size w w') : Off F w w' := ⟨h.os, h.tape, h.output, h.size, fun k h1 _ => h.block k h1⟩
theorem Off.below {F : List Nat} {w w' : World} (h : Off F w w') {n : Nat} (hn : n ≤ w.heap.size) (hF : ∀ k ∈ F, n ≤ k) : Below n w w' :=
  ⟨h.os, h.tape, h.output, h.size, fun k hk => h.block k (by omega) fun h2 => by have := hF k h2; omega⟩

/-- The cells of entries. -/
def entC (e : Ent) : List Value := [.int .i64 (ePost e), .int .i64 (eNum e), .int .i64 (eCnt e), .string (eLine e)]
def rowE (l : List Ent) : List Value := l.flatMap entC
theorem rowE_len (l : List Ent) : (rowE l).length = l.length * 4 := by
  induction l with
  | nil => rfl
  | cons e l ih => simp only [rowE, List.flatMap_cons, List.length_append] at ih ⊢; rw [ih]; simp [entC]; omega
theorem rowE_append (l m : List Ent) : rowE (l ++ m) = rowE l ++ rowE m := by simp [rowE]
theorem rowE_at : ∀ (l : List Ent) (j c : Nat) (h : j < l.length), c < 4 → (rowE l)[j * 4 + c]? = (entC l[j])[c]?
  | e :: l, 0, c, _, hc => by
    simp only [rowE, List.flatMap_cons, Nat.zero_mul, Nat.zero_add, List.getElem_cons_zero]
    rw [List.getElem?_append_left (by simpa [entC] using hc)]
  | e :: l, j + 1, c, h, hc => by
    have h2 : j < l.length := by simpa using h
    have := rowE_at l j c h2 hc
    simp only [rowE, List.flatMap_cons, List.getElem_cons_succ] at this ⊢
    rw [List.getElem?_append_right (by simp [entC]; omega), ← this]
    congr 1
    simp [entC]; omega
/-- The value of an entry. -/
def entV (e : Ent) : Value := .agg #[.int .i64 (ePost e), .int .i64 (eNum e), .int .i64 (eCnt e), .string (eLine e)]

/-- A slice of entries, whatever lies elsewhere. -/
def EntsAt (w : World) (v : Value) (l : List Ent) : Prop :=
  ∃ (a : Option Addr) (cap : Nat), v = .slice a l.length cap ∧ l.length ≤ 9223372036854775807 ∧
    (0 < l.length → ∃ b off, a = some ⟨b, off, none⟩ ∧ ∀ j c x, c < 4 → (rowE l)[j * 4 + c]? = some x → w.cell? ⟨b, off + j * 4 + c, none⟩ = some x)
theorem EntsAt.below {w w' : World} {v : Value} {l : List Ent} (h : EntsAt w v l) (hb : Below w.heap.size w w') : EntsAt w' v l := by
  obtain ⟨a, cap, rfl, hl, h⟩ := h
  refine ⟨a, cap, rfl, hl, fun h0 => ?_⟩
  obtain ⟨b, off, ha, hc⟩ := h h0
  exact ⟨b, off, ha, fun j c x hcc hx => keep_cell hb (hc j c x hcc hx)⟩

/-- A list of a book: a row of its own. -/
def ListAt (w : World) (v : Value) (l : List Ent) : Prop := w.ownsRow 0 43 4 v l.length (rowE l)
theorem ListAt.ents {w : World} {v : Value} {l : List Ent} (h : ListAt w v l) (hl : l.length ≤ 9223372036854775807) : EntsAt w v l := by
  have hx := h.1
  rcases h.2 with ⟨rfl, h0⟩ | ⟨g, cap, cur, rfl, hrest⟩
  · exact ⟨none, 0, by rw [h0], hl, fun h1 => by omega⟩
  · refine ⟨some ⟨g, 0, none⟩, cap, rfl, hl, fun _ => ⟨g, 0, rfl, fun j c x _ hx2 => ?_⟩⟩
    have hlt : j * 4 + c < (rowE l).length := (List.getElem?_eq_some_iff.1 hx2).1
    have := h.cellAt (j * 4 + c) (by rw [rowE_len] at hlt; omega)
    rw [Nat.zero_add, this, hx2]
theorem ListAt.keep {w w' : World} {v : Value} {l : List Ent} (h : ListAt w v l) (hk : ∀ k, v.ownBlock = some k → w'.heap[k]? = w.heap[k]?) : ListAt w' v l := by
  refine ⟨h.1, ?_⟩
  rcases h.2 with hn | ⟨g, cap, cur, rfl, hbg, hg, hrest⟩
  · exact .inl hn
  · exact .inr ⟨g, cap, cur, rfl, hbg, (hk g rfl).trans hg, hrest⟩
theorem ListAt.lt {w : World} {v : Value} {l : List Ent} (h : ListAt w v l) {k : Nat} (hk : v.ownBlock = some k) : k < w.heap.size := by
  rcases h.2 with ⟨rfl, _⟩ | ⟨g, cap, cur, rfl, _, hg, _⟩
  · simp [Value.ownBlock] at hk
  · obtain rfl : g = k := by simpa [Value.ownBlock] using hk
    exact (Array.getElem?_eq_some_iff.1 hg).1

/-- The blocks of four slices. -/
def blks (v0 v1 v2 v3 : Value) : List Nat := v0.ownBlock.toList ++ (v1.ownBlock.toList ++ (v2.ownBlock.toList ++ v3.ownBlock.toList))
/-- A book in block K; F: the blocks of its lists, each its own. -/
def BookAt (w : World) (K : Nat) (F : List Nat) (b : Book) : Prop :=
  ∃ v0 v1 v2 v3 : Value, w.heap[K]? = some (.cells #[v0, v1, v2, v3] 96 (0, 0)) ∧ ListAt w v0 (b 0) ∧ ListAt w v1 (b 1) ∧ ListAt w v2 (b 2) ∧ ListAt w v3 (b 3) ∧ F = blks v0 v1 v2 v3 ∧ F.Nodup
theorem BookAt.lt {w : World} {K : Nat} {F : List Nat} {b : Book} (h : BookAt w K F b) {k : Nat} (hk : k ∈ F) : k < w.heap.size := by
  obtain ⟨v0, v1, v2, v3, _, h0, h1, h2, h3, rfl, _⟩ := h
  simp only [blks, List.mem_append, Option.mem_toList] at hk
  rcases hk with hk | hk | hk | hk
  · exact h0.lt hk
  · exact h1.lt hk
  · exact h2.lt hk
  · exact h3.lt hk
theorem BookAt.keep {w w' : World} {K : Nat} {F : List Nat} {b : Book} (h : BookAt w K F b) (hk : ∀ k, k = K ∨ k ∈ F → w'.heap[k]? = w.heap[k]?) : BookAt w' K F b := by
  obtain ⟨v0, v1, v2, v3, hK, h0, h1, h2, h3, rfl, hn⟩ := h
  exact ⟨v0, v1, v2, v3, (hk K (.inl rfl)).trans hK, h0.keep (fun k e => hk k (.inr (by simp [blks, e]))), h1.keep (fun k e => hk k (.inr (by simp [blks, e]))),
    h2.keep (fun k e => hk k (.inr (by simp [blks, e]))), h3.keep (fun k e => hk k (.inr (by simp [blks, e]))), rfl, hn⟩

/-- A post in block P with the number n; F: all blocks that it stands on. -/
def PostAt (w : World) (P : Nat) (F : List Nat) (n : Nat) (b : Book) : Prop :=
  ∃ (K : Nat) (G : List Nat), w.heap[P]? = some (.cells #[.pointer (some ⟨K, 0, none⟩), .int .i64 n] 81 (0, 0)) ∧ BookAt w K G b ∧ F = P :: K :: G
theorem PostAt.keep {w w' : World} {P n : Nat} {F : List Nat} {b : Book} (h : PostAt w P F n b) (hk : ∀ k ∈ F, w'.heap[k]? = w.heap[k]?) : PostAt w' P F n b := by
  obtain ⟨K, G, hP, hB, rfl⟩ := h
  exact ⟨K, G, (hk P (by simp)).trans hP, hB.keep (fun k hk2 => hk k (by rcases hk2 with rfl | h <;> simp [*])), rfl⟩
theorem PostAt.lt {w : World} {P n : Nat} {F : List Nat} {b : Book} (h : PostAt w P F n b) {k : Nat} (hk : k ∈ F) : k < w.heap.size := by
  obtain ⟨K, G, hP, hB, rfl⟩ := h
  rcases List.mem_cons.1 hk with rfl | hk
  · exact (Array.getElem?_eq_some_iff.1 hP).1
  · rcases List.mem_cons.1 hk with rfl | hk
    · obtain ⟨_, _, _, _, hK, _⟩ := hB
      exact (Array.getElem?_eq_some_iff.1 hK).1
    · exact hB.lt hk
/-- Another post stays where only blocks that are not its own turn. -/
theorem PostAt.off {w w' : World} {P n : Nat} {F G : List Nat} {b : Book} (h : PostAt w P F n b) (ho : Off G w w') (hd : ∀ k ∈ F, k ∉ G) : PostAt w' P F n b :=
  h.keep fun k hk => ho.block k (h.lt hk) (hd k hk)
theorem PostAt.below {w w' : World} {P n : Nat} {F : List Nat} {b : Book} (h : PostAt w P F n b) (hb : Below w.heap.size w w') : PostAt w' P F n b :=
  h.keep fun k hk => hb.block k (h.lt hk)
end Go.Proofs.YtdfkaijeppdhaaaGreatDoor
/- Plain: words, numbers, and what a line is (Post). -/
namespace Go.Proofs.YtdfkaijeppdhaaaGreatDoor
open Go
def betw (a b c : Int) : Bool := decide (a ≤ b) && decide (b ≤ c)
theorem betw_iff (a b c : Int) : betw a b c = true ↔ a ≤ b ∧ b ≤ c := by simp [betw]
def notLine (r : Nat) : Bool := decide ((r : Int) < 32) || decide (126 < (r : Int))
def notName (r : Nat) : Bool := decide ((r : Int) < 97) || decide (122 < (r : Int))
def isLineB (s : ByteArray) : Bool := decide (s.size ≤ 60) && !(s.data.toList.any fun c => notLine c.toNat)
def isNameB (s : ByteArray) : Bool := betw 1 s.size 8 && !(s.data.toList.any fun c => notName c.toNat)

theorem ba_ext {s t : ByteArray} (h : s.data.toList = t.data.toList) : s = t := by
  cases s; cases t
  simp only [ByteArray.mk.injEq]
  exact Array.toList_inj.1 h
def bsB (l : List UInt8) : ByteArray := ⟨l.toArray⟩
theorem bsB_list (l : List UInt8) : (bsB l).data.toList = l := rfl
theorem bsB_of (s : ByteArray) : bsB s.data.toList = s := ba_ext rfl
theorem ba_take (s : ByteArray) (i : Nat) : s.extract 0 i = bsB (s.data.toList.take i) := by
  apply ba_ext
  simp [ByteArray.data_extract, bsB]
theorem ba_drop (s : ByteArray) (i : Nat) : s.extract i s.size = bsB (s.data.toList.drop i) := by
  apply ba_ext
  simp only [ByteArray.data_extract, Array.toList_extract, List.extract_eq_take_drop, bsB]
  rw [List.take_of_length_le]
  simp
def itoaB (n : Int) : ByteArray := ⟨(Lib.itoa n).toArray⟩

/-- The pieces of a list of bytes between the bytes c, cut k times at most. -/
def splitN (c : UInt8) : Nat → List UInt8 → List (List UInt8)
  | _, [] => [[]]
  | 0, l => [l]
  | k + 1, b :: r => if b == c then [] :: splitN c k r else match splitN c (k + 1) r with
    | [] => [[b]]
    | x :: xs => (b :: x) :: xs
theorem splitN_ne (c : UInt8) (k : Nat) (l : List UInt8) : splitN c k l ≠ [] := by
  cases l with
  | nil => cases k <;> simp [splitN]
  | cons b r =>
    cases k with
    | zero => simp [splitN]
    | succ k =>
      unfold splitN
      split
      · simp
      · split <;> simp
theorem splitN_zero (c : UInt8) (l : List UInt8) : splitN c 0 l = [l] := by cases l <;> rfl
theorem splitN_idx (c : UInt8) (k : Nat) : ∀ l : List UInt8, (Lib.indexByte l c = -1 ∧ splitN c (k + 1) l = [l]) ∨ (∃ i : Nat, Lib.indexByte l c = i ∧ i < l.length ∧ splitN c (k + 1) l = l.take i :: splitN c k (l.drop (i + 1)))
  | [] => .inl ⟨rfl, rfl⟩
  | b :: r => by
    by_cases h : b = c
    · subst h
      exact .inr ⟨0, by simp [Lib.indexByte], by simp, by simp [splitN]⟩
    · have hb : (b == c) = false := by simpa using h
      rcases splitN_idx c k r with ⟨h1, h2⟩ | ⟨i, h1, h2, h3⟩
      · exact .inl ⟨by simp [Lib.indexByte, hb, h1], by simp [splitN, hb, h2]⟩
      · refine .inr ⟨i + 1, ?_, by simp [h2], ?_⟩
        · unfold Lib.indexByte
          rw [hb, h1]
          have : ((i : Int) == -1) = false := by simp
          simp [this]
        · rw [show splitN c (k + 1) (b :: r) = match splitN c (k + 1) r with | [] => [[b]] | x :: xs => (b :: x) :: xs by simp [splitN, hb], h3]
          simp
def splitS (c : UInt8) (k : Nat) (s : ByteArray) : List ByteArray := (splitN c k s.data.toList).map bsB
theorem splitS_ne (c : UInt8) (k : Nat) (s : ByteArray) : splitS c k s ≠ [] := fun h => splitN_ne c k s.data.toList (List.map_eq_nil_iff.1 h)
theorem splitB_is (c : UInt8) : ∀ (k : Nat) (s : ByteArray), Lib.splitB ⟨#[c]⟩ 0 k s = splitS c k s
  | 0, s => by unfold splitS; rw [splitN_zero]; simp [Lib.splitB, bsB_of]
  | k + 1, s => by
    have hi : Lib.indexB s ⟨#[c]⟩ = Lib.indexByte s.data.toList c := Lib.index_one _ _
    unfold splitS
    rcases splitN_idx c k s.data.toList with ⟨h1, h2⟩ | ⟨i, h1, h2, h3⟩
    · rw [Lib.splitB_miss _ _ _ _ (hi.trans h1), h2]; simp [bsB_of]
    · rw [Lib.splitB_hit _ _ _ _ i (hi.trans h1), h3, List.map_cons, splitB_is c k, Nat.add_zero, ba_take, show (⟨#[c]⟩ : ByteArray).size = 1 from rfl, ba_drop]
      rfl
theorem count_one (c : UInt8) : ∀ (f : Nat) (l : List UInt8), l.length < f → Lib.countFrom [c] f l = l.count c
  | 0, l, h => by omega
  | f + 1, l, h => by
    unfold Lib.countFrom
    rw [Lib.index_one]
    rcases splitN_idx c 0 l with ⟨h1, h2⟩ | ⟨i, h1, h2, h3⟩
    · rw [h1]
      have hn : c ∉ l := fun hm => by
        clear h h2
        induction l with
        | nil => simp at hm
        | cons b r ih =>
          unfold Lib.indexByte at h1
          split at h1
          · simp at h1
          · rename_i hb
            split at h1
            · rename_i hr
              rcases List.mem_cons.1 hm with rfl | hm
              · simp at hb
              · exact ih (by simpa using hr) hm
            · have := Lib.indexByte_ge r c; omega
      rw [List.count_eq_zero.2 hn]; rfl
    · rw [h1]
      have hne : ((i : Int) == -1) = false := by simp
      have hsp : l = l.take i ++ (c :: l.drop (i + 1)) := by
        have hget : l[i]'h2 = c ∧ c ∉ l.take i := by
          clear h hne h3
          induction l generalizing i with
          | nil => simp at h2
          | cons b r ih =>
            unfold Lib.indexByte at h1
            split at h1
            · rename_i hb
              have : i = 0 := by omega
              subst this
              simp at hb ⊢
              exact hb
            · rename_i hb
              split at h1
              · omega
              · rename_i hr
                have hr' : Lib.indexByte r c ≠ -1 := by simpa using hr
                obtain ⟨j, rfl⟩ : ∃ j, i = j + 1 := ⟨i - 1, by have := Lib.indexByte_ge r c; omega⟩
                have := ih j (by omega) (by simpa using h2)
                refine ⟨by simpa using this.1, ?_⟩
                simp only [List.take_succ_cons, List.mem_cons, not_or]
                exact ⟨fun e => hb (by simp [e]), this.2⟩
        conv => lhs; rw [← List.take_append_drop i l]
        rw [List.drop_eq_getElem_cons h2, hget.1]
      have hnt : (l.take i).count c = 0 := by
        refine List.count_eq_zero.2 fun hm => ?_
        clear h hne h3 hsp
        induction l generalizing i with
        | nil => simp at h2
        | cons b r ih =>
          unfold Lib.indexByte at h1
          split at h1
          · have : i = 0 := by omega
            subst this; simp at hm
          · rename_i hb
            split at h1
            · omega
            · rename_i hr
              have hr' : Lib.indexByte r c ≠ -1 := by simpa using hr
              obtain ⟨j, rfl⟩ : ∃ j, i = j + 1 := ⟨i - 1, by have := Lib.indexByte_ge r c; omega⟩
              rw [List.take_succ_cons, List.mem_cons] at hm
              rcases hm with rfl | hm
              · simp at hb
              · exact ih j (by omega) (by simpa using h2) hm
      rw [hne]
      simp only [Bool.false_eq_true, if_false, Int.toNat_natCast, List.length_cons, List.length_nil, Nat.zero_add]
      rw [count_one c f _ (by rw [List.length_drop]; omega)]
      conv => rhs; rw [hsp]
      rw [List.count_append, hnt, List.count_cons_self]
      omega
theorem countB_one (s : ByteArray) (c : UInt8) : Lib.countB s ⟨#[c]⟩ = s.data.toList.count c := count_one c _ _ (Nat.lt_succ_self _)
/-- All pieces. -/
def splitA (c : UInt8) (s : ByteArray) : List ByteArray := splitS c (s.data.toList.count c) s
theorem splitB_all (s : ByteArray) (c : UInt8) : Lib.splitB ⟨#[c]⟩ 0 (Lib.countB s ⟨#[c]⟩) s = splitA c s := by rw [countB_one, splitB_is]; rfl
theorem splitN_len (c : UInt8) : ∀ l : List UInt8, (splitN c (l.count c) l).length = l.count c + 1
  | [] => rfl
  | b :: r => by
    by_cases hb : b = c
    · subst hb
      rw [List.count_cons_self]
      simp only [splitN, BEq.rfl, if_true, List.length_cons]
      rw [splitN_len b r]
    · have hbc : (b == c) = false := by simpa using hb
      rw [List.count_cons_of_ne hb]
      have ih := splitN_len c r
      cases h0 : r.count c with
      | zero => rw [splitN_zero]; rfl
      | succ m =>
        rw [h0] at ih
        simp only [splitN, hbc, Bool.false_eq_true, if_false]
        generalize splitN c (m + 1) r = q at *
        cases q with
        | nil => simp at ih
        | cons x xs => simpa using ih
theorem splitA_len (c : UInt8) (s : ByteArray) : (splitA c s).length = s.data.toList.count c + 1 := by unfold splitA splitS; rw [List.length_map, splitN_len]
theorem splitA_ne (c : UInt8) (s : ByteArray) : splitA c s ≠ [] := splitS_ne _ _ _
theorem splitN_join (c : UInt8) : ∀ (l : List UInt8) (k : Nat), Lib.join (splitN c k l) [c] = l
  | [], k => by cases k <;> rfl
  | b :: r, 0 => by rw [splitN_zero, Lib.join_one]
  | b :: r, k + 1 => by
    by_cases hb : b = c
    · subst hb
      simp only [splitN, BEq.rfl, if_true]
      have ih := splitN_join b r k
      rw [Lib.join_cons]
      cases hq : splitN b k r with
      | nil => exact absurd hq (splitN_ne _ _ _)
      | cons x xs =>
        rw [hq, Lib.join_cons] at ih
        simp only [Lib.joinTail, List.map_cons, List.flatten_cons, List.nil_append, List.cons_append] at ih ⊢
        rw [ih]
    · have hbc : (b == c) = false := by simpa using hb
      have ih := splitN_join c r (k + 1)
      simp only [splitN, hbc, Bool.false_eq_true, if_false]
      cases hq : splitN c (k + 1) r with
      | nil => exact absurd hq (splitN_ne _ _ _)
      | cons x xs =>
        rw [hq, Lib.join_cons] at ih
        rw [Lib.join_cons, List.cons_append, ih]
/-- The words behind the first one, joined, are what stands behind the first space. -/
theorem splitN_cons (c : UInt8) (k : Nat) (l x : List UInt8) (xs : List (List UInt8)) (h : splitN c k l = x :: xs) (hx : xs ≠ []) : l = x ++ c :: Lib.join xs [c] := by
  have := splitN_join c l k
  rw [h, Lib.join_cons] at this
  obtain ⟨y, ys, rfl⟩ : ∃ y ys, xs = y :: ys := by cases xs with | nil => exact absurd rfl hx | cons y ys => exact ⟨y, ys, rfl⟩
  rw [← this, Lib.join_cons]
  simp [Lib.joinTail]
end Go.Proofs.YtdfkaijeppdhaaaGreatDoor
/- Plain: what a line says, what a book says, what posts do (Post). -/
namespace Go.Proofs.YtdfkaijeppdhaaaGreatDoor
open Go
def noE : Ent := (0, 0, 0, ⟨#[]⟩)
def emp : ByteArray := ⟨#[]⟩

theorem decDigits_byte (u : Nat) : ∀ x ∈ Lib.decDigits u, 48 ≤ x.toNat ∧ x.toNat ≤ 57 := by
  induction u using Nat.strongRecOn with
  | _ u ih =>
    intro x hx
    rw [Lib.decDigits] at hx
    have one : ∀ d, d < 10 → 48 ≤ (UInt8.ofNat (48 + d)).toNat ∧ (UInt8.ofNat (48 + d)).toNat ≤ 57 := fun d hd => by
      rw [UInt8.toNat_ofNat']; omega
    split at hx
    · rename_i h
      have : x = UInt8.ofNat (48 + u) := by simpa using hx
      rw [this]; exact one u h
    · rename_i h
      rcases List.mem_append.1 hx with hx | hx
      · exact ih (u / 10) (by omega) x hx
      · have : x = UInt8.ofNat (48 + u % 10) := by simpa using hx
        rw [this]; exact one (u % 10) (by omega)
theorem itoa_byte (n : Int) : ∀ x ∈ Lib.itoa n, x.toNat = 45 ∨ 48 ≤ x.toNat ∧ x.toNat ≤ 57 := by
  intro x hx
  unfold Lib.itoa at hx
  split at hx
  · rcases List.mem_cons.1 hx with rfl | hx
    · exact .inl rfl
    · exact .inr (decDigits_byte _ x hx)
  · exact .inr (decDigits_byte _ x hx)
theorem nDigits_le : ∀ (k u : Nat), u < 10 ^ (k + 1) → Lib.nDigits u ≤ k + 1
  | 0, u, h => by rw [Lib.nDigits_small (by simpa using h)]; exact Nat.le_refl _
  | k + 1, u, h => by
    by_cases h1 : u < 10
    · rw [Lib.nDigits_small h1]; omega
    · rw [Lib.nDigits_big h1]
      have := nDigits_le k (u / 10) (by rw [Nat.pow_succ] at h; omega)
      omega
theorem itoa_len5 {n : Int} (h0 : -9999 ≤ n) (h1 : n ≤ 9999) : (Lib.itoa n).length ≤ 5 := by
  unfold Lib.itoa
  split
  · rw [List.length_cons, Lib.decDigits_length]
    have := nDigits_le 3 n.natAbs (by omega)
    omega
  · rw [Lib.decDigits_length]
    have := nDigits_le 3 n.toNat (by omega)
    omega
theorem itoa_len {n : Int} (h0 : -1000000000 ≤ n) (h1 : n ≤ 1000000000) : (Lib.itoa n).length ≤ 11 := by
  unfold Lib.itoa
  split
  · rw [List.length_cons, Lib.decDigits_length]
    have := nDigits_le 9 n.natAbs (by omega)
    omega
  · rw [Lib.decDigits_length]
    have := nDigits_le 9 n.toNat (by omega)
    omega
theorem decDigits_ne (u : Nat) : Lib.decDigits u ≠ [] := by
  intro h
  have := Lib.decDigits_length u
  rw [h] at this
  have := Lib.nDigits_pos u
  simp at *
  omega

/-- A number; none: the word is none. -/
def numV (s : ByteArray) : Option Int := match Lib.atoiAll s.data.toList with
  | .ok v => if decide (itoaB v = s) && betw (-9999) v 9999 then some v else none
  | _ => none
theorem numV_some {s : ByteArray} {v : Int} (h : numV s = some v) : s = itoaB v ∧ -9999 ≤ v ∧ v ≤ 9999 := by
  unfold numV at h
  split at h
  · split at h
    · rename_i hc
      rw [Bool.and_eq_true, decide_eq_true_eq, betw_iff] at hc
      simp only [Option.some.injEq] at h
      subst h
      exact ⟨hc.1.symm, hc.2⟩
    · cases h
  · cases h
/-- All of a list, or none. -/
def allS {α β : Type} (f : α → Option β) : List α → Option (List β)
  | [] => some []
  | x :: xs => match f x, allS f xs with
    | some y, some ys => some (y :: ys)
    | _, _ => none
theorem allS_snoc {α β : Type} (f : α → Option β) (xs : List α) (x : α) : allS f (xs ++ [x]) = match allS f xs, f x with
    | some ys, some y => some (ys ++ [y])
    | _, _ => none := by
  induction xs with
  | nil => simp only [List.nil_append, allS]; cases f x <;> rfl
  | cons z zs ih =>
    rw [List.cons_append, allS, ih]
    cases h1 : f z <;> cases h2 : allS f zs <;> cases h3 : f x <;> simp [allS, h1, h2]
theorem allS_bad {α β : Type} (f : α → Option β) (xs : List α) {x : α} (hx : x ∈ xs) (h : f x = none) : allS f xs = none := by
  induction xs with
  | nil => simp at hx
  | cons z zs ih =>
    rcases List.mem_cons.1 hx with rfl | hx
    · simp [allS, h]
    · rw [allS, ih hx]; cases f z <;> rfl
theorem allS_len {α β : Type} (f : α → Option β) : ∀ (xs : List α) (ys : List β), allS f xs = some ys → ys.length = xs.length
  | [], ys, h => by simp only [allS, Option.some.injEq] at h; subst h; rfl
  | x :: xs, ys, h => by
    rw [allS] at h
    cases h1 : f x <;> cases h2 : allS f xs <;> simp [h1, h2] at h
    subst h
    simp [allS_len f xs _ h2]
def joinS (l : List ByteArray) : ByteArray := bsB (Lib.join (l.map (·.data.toList)) [32])

/-- A line: a deed or a question. -/
inductive Cmd where
  | put (name text : ByteArray)
  | drop (name : ByteArray)
  | add (name : ByteArray) (n : Int)
  | stock (name : ByteArray)
  | share (n : Int) (names : List ByteArray)
  | asked (k : Nat) (names : List ByteArray) (ns : List Int)
def Cmd.deed : Cmd → Bool
  | .put .. => true
  | .drop .. => true
  | .add .. => true
  | _ => false
def putW : ByteArray := ⟨#[112, 117, 116]⟩
def dropW : ByteArray := ⟨#[100, 114, 111, 112]⟩
def stockW : ByteArray := ⟨#[115, 116, 111, 99, 107]⟩
def addW : ByteArray := ⟨#[97, 100, 100]⟩
def shareW : ByteArray := ⟨#[115, 104, 97, 114, 101]⟩
def textW : ByteArray := ⟨#[116, 101, 120, 116]⟩
def beatW : ByteArray := ⟨#[98, 101, 97, 116]⟩
def farW : ByteArray := ⟨#[102, 97, 114]⟩
def driftW : ByteArray := ⟨#[100, 114, 105, 102, 116]⟩
/-- A question about texts: its kind, of how many names, and numbers. -/
def kindB (w : ByteArray) : Option (Nat × Nat × Nat) :=
  if w = textW then some (0, 1, 0) else if w = beatW then some (1, 1, 0) else if w = farW then some (2, 2, 0) else if w = driftW then some (3, 1, 2) else none
def aboutB (w : ByteArray) (rest : List ByteArray) : Option Cmd := match kindB w with
  | none => none
  | some (k, many, nums) => if rest.length ≠ many + nums then none else
    match (rest.take many).all isNameB, allS numV (rest.drop many) with
    | true, some ns => some (.asked k (rest.take many) ns)
    | _, _ => none
def lineB1 (w r0 : ByteArray) (rs : List ByteArray) (line : ByteArray) : Option Cmd :=
  if w = putW then (if isNameB r0 && !(joinS rs).data.toList.isEmpty && isLineB line then some (.put r0 (joinS rs)) else none)
  else if w = dropW then (if decide (rs = []) && isNameB r0 then some (.drop r0) else none)
  else if w = stockW then (if decide (rs = []) && isNameB r0 then some (.stock r0) else none)
  else if w = addW then (match allS numV rs with
    | some [n] => if isNameB r0 then some (.add r0 n) else none
    | _ => none)
  else if w = shareW then (match numV r0 with
    | some n => if rs.all isNameB && betw 1 rs.length 8 then some (.share n rs) else none
    | none => none)
  else aboutB w (r0 :: rs)
/-- The deed or the question of a line. -/
def parseB (line : ByteArray) : Option Cmd := match splitA 32 line with
  | w :: r0 :: rs => lineB1 w r0 rs line
  | _ => none

theorem isLineB_iff (s : ByteArray) : isLineB s = true ↔ s.size ≤ 60 ∧ ∀ c ∈ s.data.toList, 32 ≤ c.toNat ∧ c.toNat ≤ 126 := by
  unfold isLineB
  rw [Bool.and_eq_true, decide_eq_true_eq, Bool.not_eq_true', List.any_eq_false]
  refine and_congr_right fun _ => forall_congr' fun c => forall_congr' fun _ => ?_
  unfold notLine
  rw [Bool.not_eq_true, Bool.or_eq_false_iff, decide_eq_false_iff_not, decide_eq_false_iff_not]
  omega
theorem isNameB_iff (s : ByteArray) : isNameB s = true ↔ 1 ≤ s.size ∧ s.size ≤ 8 ∧ ∀ c ∈ s.data.toList, 97 ≤ c.toNat ∧ c.toNat ≤ 122 := by
  unfold isNameB
  rw [Bool.and_eq_true, betw_iff, Bool.not_eq_true', List.any_eq_false, and_assoc]
  refine and_congr (by omega) (and_congr (by omega) (forall_congr' fun c => forall_congr' fun _ => ?_))
  unfold notName
  rw [Bool.not_eq_true, Bool.or_eq_false_iff, decide_eq_false_iff_not, decide_eq_false_iff_not]
  omega
theorem lineB_is (s : ByteArray) : lineB s = isLineB s := by
  rw [Bool.eq_iff_iff, isLineB_iff]
  unfold lineB
  rw [Bool.and_eq_true, decide_eq_true_eq, List.all_eq_true]
  refine and_congr_right fun _ => forall_congr' fun c => forall_congr' fun _ => ?_
  rw [Bool.and_eq_true, decide_eq_true_eq, decide_eq_true_eq]
theorem ba_size (s : ByteArray) : s.size = s.data.toList.length := by simp
/-- A line is its words, joined. -/
theorem splitA_cons {s w : ByteArray} {rs : List ByteArray} (h : splitA 32 s = w :: rs) (hr : rs ≠ []) : s.data.toList = w.data.toList ++ 32 :: (joinS rs).data.toList := by
  unfold splitA splitS at h
  obtain ⟨x, xs, hq, hx, hxs⟩ := List.map_eq_cons_iff.1 h
  have := splitN_cons 32 _ _ x xs hq (by rintro rfl; simp at hxs; exact hr hxs)
  rw [this, ← hx, ← hxs]
  simp [joinS, bsB, List.map_map, Function.comp_def]
theorem joinS_one (r : ByteArray) : joinS [r] = r := by unfold joinS; rw [List.map_singleton, Lib.join_one]; exact bsB_of r
theorem joinS_cons (r r2 : ByteArray) (rs : List ByteArray) : (joinS (r :: r2 :: rs)).data.toList = r.data.toList ++ 32 :: (joinS (r2 :: rs)).data.toList := by
  unfold joinS
  rw [bsB_list, bsB_list, List.map_cons, List.map_cons, Lib.join_cons, Lib.join_cons]
  simp [Lib.joinTail]
theorem ent_line {s : ByteArray} {a b : List UInt8} (h : s.data.toList = a ++ 32 :: b) (hl : a.length + b.length + 1 ≤ 60) (ha : ∀ c ∈ a, 32 ≤ c.toNat ∧ c.toNat ≤ 126) (hb : ∀ c ∈ b, 32 ≤ c.toNat ∧ c.toNat ≤ 126) : isLineB s = true := by
  rw [isLineB_iff, ba_size, h]
  refine ⟨by simp; omega, fun c hc => ?_⟩
  rcases List.mem_append.1 hc with hc | hc
  · exact ha c hc
  · rcases List.mem_cons.1 hc with rfl | hc
    · decide
    · exact hb c hc
/-- A deed is a line. -/
theorem deed_line {s : ByteArray} {c : Cmd} (h : parseB s = some c) (hd : c.deed = true) : isLineB s = true := by
  unfold parseB at h
  split at h
  · rename_i w r0 rs hs
    unfold lineB1 at h
    split at h
    · split at h
      · rename_i hc
        rw [Bool.and_eq_true] at hc
        exact hc.2
      · cases h
    · split at h
      · rename_i hw
        split at h
        · rename_i hc
          rw [Bool.and_eq_true, decide_eq_true_eq, isNameB_iff] at hc
          obtain ⟨rfl, h1, h2, h3⟩ := hc
          have he := splitA_cons hs (by simp)
          rw [joinS_one] at he
          subst hw
          exact ent_line he (by have h4 : dropW.data.toList.length = 4 := rfl; have h5 := ba_size r0; omega) (by decide) (fun c hc => by have := h3 c hc; omega)
        · cases h
      · split at h
        · split at h
          · cases h; cases hd
          · cases h
        · split at h
          · rename_i hw
            split at h
            · rename_i n hn
              split at h
              · rename_i hc
                rw [isNameB_iff] at hc
                obtain ⟨h1, h2, h3⟩ := hc
                obtain ⟨r1, rfl⟩ : ∃ r1, rs = [r1] := by
                  have := allS_len _ _ _ hn
                  match rs, this with
                  | [r], _ => exact ⟨r, rfl⟩
                have hn1 : numV r1 = some n := by
                  unfold allS at hn
                  cases h4 : numV r1 with
                  | none => simp [h4] at hn
                  | some v => simpa [h4, allS] using hn
                obtain ⟨e1, b1, b2⟩ := numV_some hn1
                have he := splitA_cons hs (by simp)
                rw [joinS_cons, joinS_one] at he
                subst hw
                have l1 := itoa_len5 b1 b2
                have e2 : r1.data.toList = Lib.itoa n := by rw [e1]; rfl
                rw [e2] at he
                refine ent_line (a := addW.data.toList) (b := r0.data.toList ++ 32 :: Lib.itoa n) he (by have h4 : addW.data.toList.length = 3 := rfl; have h5 := ba_size r0; rw [List.length_append, List.length_cons]; omega) (by decide) (fun c hc => ?_)
                rcases List.mem_append.1 hc with hc | hc
                · have := h3 c hc; omega
                · rcases List.mem_cons.1 hc with rfl | hc
                  · decide
                  · have := itoa_byte n c hc; omega
              · cases h
            · cases h
          · split at h
            · split at h
              · split at h
                · cases h; cases hd
                · cases h
              · cases h
            · unfold aboutB at h
              split at h
              · cases h
              · split at h
                · cases h
                · split at h
                  · cases h; cases hd
                  · cases h
  · cases h

structure Kn where
  txt : ByteArray → Option ByteArray
  stk : ByteArray → Int
def kn0 : Kn := ⟨fun _ => none, fun _ => 0⟩
def upd {α : Type} (f : ByteArray → α) (x : ByteArray) (v : α) : ByteArray → α := fun y => if y = x then v else f y
theorem upd_same {α : Type} (f : ByteArray → α) (x : ByteArray) (v : α) : upd f x v x = v := by simp [upd]
theorem upd_other {α : Type} (f : ByteArray → α) {x y : ByteArray} (v : α) (h : y ≠ x) : upd f x v y = f y := by simp [upd, h]
def sayB : Cmd → Kn → (ByteArray × Int) × Kn
  | .put n t, k => ((t, 0), ⟨upd k.txt n (some t), k.stk⟩)
  | .drop n, k => match k.txt n with
    | none => ((emp, 5), k)
    | some s => ((s, 0), ⟨upd k.txt n none, k.stk⟩)
  | .add n m, k => ((itoaB (k.stk n + m), 0), ⟨k.txt, upd k.stk n (k.stk n + m)⟩)
  | _, k => ((emp, 0), k)
def lineSay (k : Kn) (s : ByteArray) : Kn := match parseB s with
  | some c => if c.deed then (sayB c k).2 else k
  | none => k
def saysFrom (k : Kn) (l : List Ent) : Kn := l.foldl (fun k e => lineSay k (eLine e)) k
def saysB (l : List Ent) : Kn := saysFrom kn0 l
theorem saysB_snoc (l : List Ent) (e : Ent) : saysB (l ++ [e]) = lineSay (saysB l) (eLine e) := by unfold saysB saysFrom; rw [List.foldl_append]; rfl

def newE (b : Book) (n : Nat) (line : ByteArray) : Ent := ((n : Int), ((b n).length : Int) + 1, cntB b + 1, line)
def addAt (b : Book) (n : Nat) (e : Ent) : Book := setB b n (b n ++ [e])
/-- Do: answer, error, book. -/
def doB (b : Book) (n : Nat) (line : ByteArray) : ByteArray × Int × Book := match parseB line with
  | none => (emp, 100, b)
  | some c => if c.deed = false then (emp, 100, b) else
    if 60 ≤ (b n).length ∨ 1000000 ≤ cntB b then (emp, 4, b) else
    if (sayB c (saysB (allB b))).1.2 = 0 then ((sayB c (saysB (allB b))).1.1, 0, addAt b n (newE b n line)) else (emp, (sayB c (saysB (allB b))).1.2, b)

theorem lastC_le {i : Nat} {l : List Ent} (h : ListOk i l) : 0 ≤ lastC l ∧ lastC l ≤ 1000000 := by
  unfold lastC
  cases hl : l.getLast? with
  | none => simp
  | some e => have := h.mem (List.mem_of_getLast? hl); simp; omega
theorem cnt_le_last {i : Nat} {l : List Ent} (h : ListOk i l) {e : Ent} (he : e ∈ l) : eCnt e ≤ lastC l := by
  obtain ⟨j, hj, rfl⟩ := List.getElem_of_mem he
  have hl : lastC l = eCnt (l[l.length - 1]'(by omega)) := by
    unfold lastC
    rw [List.getLast?_eq_getElem?, List.getElem?_eq_getElem (by omega)]
  rw [hl]
  by_cases hjl : j = l.length - 1
  · subst hjl; exact Int.le_refl _
  · exact Int.le_of_lt (List.pairwise_iff_getElem.1 h.asc j (l.length - 1) hj (by omega) (by omega))
theorem cntB_le {b : Book} (hb : BookOk b) : 0 ≤ cntB b ∧ cntB b ≤ 1000000 := by
  have h0 := lastC_le (hb 0 (by omega))
  have h1 := lastC_le (hb 1 (by omega))
  have h2 := lastC_le (hb 2 (by omega))
  have h3 := lastC_le (hb 3 (by omega))
  unfold cntB
  omega
theorem last_le_cnt (b : Book) {i : Nat} (hi : i < 4) : lastC (b i) ≤ cntB b := by
  unfold cntB
  rcases (show i = 0 ∨ i = 1 ∨ i = 2 ∨ i = 3 by omega) with rfl | rfl | rfl | rfl <;> omega
theorem listOk_snoc {i : Nat} {l : List Ent} (h : ListOk i l) {e : Ent} (hlen : l.length < 60) (h1 : ePost e = i) (h2 : eNum e = (l.length : Int) + 1) (h3 : 1 ≤ eCnt e) (h4 : eCnt e ≤ 1000000) (h5 : lineB (eLine e) = true) (h6 : lastC l < eCnt e) : ListOk i (l ++ [e]) := by
  refine ⟨by simp; omega, fun j hj => ?_, List.pairwise_append.2 ⟨h.asc, List.pairwise_singleton _ _, fun a ha c hc => ?_⟩⟩
  · by_cases hjl : j < l.length
    · rw [List.getElem_append_left hjl]; exact h.own j hjl
    · have hjl2 : j = l.length := by simp at hj; omega
      subst hjl2
      simp only [List.getElem_append_right (Nat.le_refl _), Nat.sub_self, List.getElem_cons_zero]
      exact ⟨h1, by simpa using h2, h3, h4, h5⟩
  · have : c = e := by simpa using hc
    subst this
    have := cnt_le_last h ha
    omega
theorem setB_ok {b : Book} (hb : BookOk b) {n : Nat} {l : List Ent} (hl : ListOk n l) : BookOk (setB b n l) := fun i hi => by
  by_cases h : i = n
  · subst h; rw [setB_same]; exact hl
  · rw [setB_other _ _ h]; exact hb i hi
theorem addAt_ok {b : Book} (hb : BookOk b) {n : Nat} (hn : n < 4) {line : ByteArray} (h1 : (b n).length < 60) (h2 : cntB b < 1000000) (h3 : isLineB line = true) : BookOk (addAt b n (newE b n line)) := by
  have hc := cntB_le hb
  have hl := last_le_cnt b hn
  exact setB_ok hb (listOk_snoc (hb n hn) h1 rfl rfl (by show 1 ≤ cntB b + 1; omega) (by show cntB b + 1 ≤ 1000000; omega) (by rw [lineB_is]; exact h3) (by show lastC (b n) < cntB b + 1; omega))
theorem doB_ok {b : Book} (hb : BookOk b) {n : Nat} (hn : n < 4) (line : ByteArray) : BookOk (doB b n line).2.2 := by
  unfold doB
  split
  · exact hb
  · rename_i c hp
    split
    · exact hb
    · rename_i hd
      split
      · exact hb
      · rename_i hlim
        split
        · exact addAt_ok hb hn (by omega) (by omega) (deed_line hp (by simpa using hd))
        · exact hb
theorem longL_ok {i : Nat} {l m : List Ent} (hl : ListOk i l) (hm : ListOk i m) : ListOk i (longL l m) := by unfold longL; split <;> assumption
theorem joinB_ok {b o c : Book} (hb : BookOk b) (ho : BookOk o) (h : joinB b o = some c) : BookOk c := by
  unfold joinB at h
  split at h
  · simp only [Option.some.injEq] at h
    subst h
    exact fun i hi => longL_ok (hb i hi) (ho i hi)
  · cases h
end Go.Proofs.YtdfkaijeppdhaaaGreatDoor
/- Plain: books that are beginnings of common lists; joins; what is written last; texts (Post). -/
namespace Go.Proofs.YtdfkaijeppdhaaaGreatDoor
open Go
theorem restB_zero (b : Book) (i : Nat) : restB b (fun _ => 0) i = b i := by
  unfold restB
  rw [show (min (max 0 (0 : Int)) ((b i).length : Int)).toNat = 0 by omega, List.drop_zero]
theorem catB_zero (b : Book) : catB b (fun _ => 0) = b 0 ++ (b 1 ++ (b 2 ++ b 3)) := by unfold catB; simp only [restB_zero]
theorem allB_perm (b : Book) : (allB b).Perm (b 0 ++ (b 1 ++ (b 2 ++ b 3))) := by
  have := srtE_perm (catB b fun _ => 0)
  rw [catB_zero] at this
  unfold allB sinceB
  rw [catB_zero]
  exact this
theorem allB_mem {b : Book} {e : Ent} (h : e ∈ allB b) : ∃ i, i < 4 ∧ e ∈ b i := by
  have := (allB_perm b).mem_iff.1 h
  simp only [List.mem_append] at this
  rcases this with h | h | h | h
  · exact ⟨0, by omega, h⟩
  · exact ⟨1, by omega, h⟩
  · exact ⟨2, by omega, h⟩
  · exact ⟨3, by omega, h⟩
def lenB (b : Book) : Nat := (b 0).length + (b 1).length + (b 2).length + (b 3).length
theorem allB_len (b : Book) : (allB b).length = lenB b := by
  rw [(allB_perm b).length_eq]; unfold lenB; simp; omega
theorem lenB_le {b : Book} (hb : BookOk b) : lenB b ≤ 240 := by
  have h0 := (hb 0 (by omega)).len
  have h1 := (hb 1 (by omega)).len
  have h2 := (hb 2 (by omega)).len
  have h3 := (hb 3 (by omega)).len
  unfold lenB; omega
theorem asc_keys {l : List Ent} (h : Asc l) : Keys l := h.imp fun hlt hk => by unfold eLt at hlt; omega
theorem keys_perm {l m : List Ent} (hp : l.Perm m) (h : Keys l) : Keys m := (List.Perm.pairwise_iff (fun {a b} (hk : ¬ (eCnt a = eCnt b ∧ ePost a = ePost b)) h2 => hk ⟨h2.1.symm, h2.2.symm⟩) hp).1 h
theorem allB_unique {b : Book} {m : List Ent} (hm : Asc m) (hp : m.Perm (allB b)) : m = allB b :=
  srtE_unique hm (keys_perm (hp.trans (srtE_perm _)) (asc_keys hm)) (hp.trans (srtE_perm _))
def BookEq (b c : Book) : Prop := ∀ i, i < 4 → b i = c i
theorem BookEq.refl (b : Book) : BookEq b b := fun _ _ => rfl
theorem BookEq.symm {b c : Book} (h : BookEq b c) : BookEq c b := fun i hi => (h i hi).symm
theorem BookEq.trans {b c d : Book} (h : BookEq b c) (k : BookEq c d) : BookEq b d := fun i hi => (h i hi).trans (k i hi)
theorem BookEq.all {b c : Book} (h : BookEq b c) : allB b = allB c := by
  unfold allB sinceB
  rw [catB_zero, catB_zero, h 0 (by omega), h 1 (by omega), h 2 (by omega), h 3 (by omega)]
theorem BookEq.since {b c : Book} (h : BookEq b c) (s : Nat → Int) : sinceB b s = sinceB c s := by
  unfold sinceB catB restB
  rw [h 0 (by omega), h 1 (by omega), h 2 (by omega), h 3 (by omega)]
theorem BookEq.cnt {b c : Book} (h : BookEq b c) : cntB b = cntB c := by
  unfold cntB
  rw [h 0 (by omega), h 1 (by omega), h 2 (by omega), h 3 (by omega)]
theorem BookEq.len {b c : Book} (h : BookEq b c) : lenB b = lenB c := by
  unfold lenB
  rw [h 0 (by omega), h 1 (by omega), h 2 (by omega), h 3 (by omega)]
theorem BookEq.ok {b c : Book} (h : BookEq b c) (hb : BookOk b) : BookOk c := fun i hi => by rw [← h i hi]; exact hb i hi
def Under (M : Nat → List Ent) (b : Book) : Prop := ∀ i, i < 4 → b i <+: M i
theorem fit_of {l m M : List Ent} (hl : l <+: M) (hm : m <+: M) : fitL l m = true := by
  unfold fitL
  rw [Bool.or_eq_true, decide_eq_true_eq, decide_eq_true_eq]
  rcases Nat.le_total l.length m.length with h | h
  · exact .inl (List.prefix_of_prefix_length_le hl hm h)
  · exact .inr (List.prefix_of_prefix_length_le hm hl h)
theorem longL_len (l m : List Ent) : (longL l m).length = max l.length m.length := by unfold longL; split <;> omega
theorem longL_under {l m M : List Ent} (hl : l <+: M) (hm : m <+: M) : longL l m <+: M := by unfold longL; split <;> assumption
def joinL (b o : Book) : Book := fun i => longL (b i) (o i)
theorem join_under {M : Nat → List Ent} {b o : Book} (hb : Under M b) (ho : Under M o) : joinB b o = some (joinL b o) ∧ Under M (joinL b o) := by
  refine ⟨?_, fun i hi => longL_under (hb i hi) (ho i hi)⟩
  unfold joinB
  rw [fit_of (hb 0 (by omega)) (ho 0 (by omega)), fit_of (hb 1 (by omega)) (ho 1 (by omega)), fit_of (hb 2 (by omega)) (ho 2 (by omega)), fit_of (hb 3 (by omega)) (ho 3 (by omega))]
  rfl
theorem join_len (b o : Book) (i : Nat) : (joinL b o i).length = max (b i).length (o i).length := longL_len _ _
theorem joinL_ok {b o : Book} (hb : BookOk b) (ho : BookOk o) : BookOk (joinL b o) := fun i hi => longL_ok (hb i hi) (ho i hi)
/-- Three posts that have heard of each other. -/
structure Sys (bs : Nat → Book) : Prop where
  ok : ∀ j, j < 3 → BookOk (bs j)
  own : ∀ j, j < 3 → ∀ i, i < 3 → bs j i <+: bs i i
  none : ∀ j, j < 3 → bs j 3 = []
def masters (bs : Nat → Book) : Nat → List Ent := fun i => if i < 3 then bs i i else []
theorem Sys.under {bs : Nat → Book} (h : Sys bs) {j : Nat} (hj : j < 3) : Under (masters bs) (bs j) := fun i hi => by
  unfold masters
  split
  · exact h.own j hj i (by assumption)
  · obtain rfl : i = 3 := by omega
    rw [h.none j hj]
    exact List.nil_prefix
def setP (bs : Nat → Book) (j : Nat) (b : Book) : Nat → Book := fun k => if k = j then b else bs k
theorem setP_same (bs : Nat → Book) (j : Nat) (b : Book) : setP bs j b j = b := by simp [setP]
theorem setP_other (bs : Nat → Book) {j k : Nat} (b : Book) (h : k ≠ j) : setP bs j b k = bs k := by simp [setP, h]
theorem sys_new : Sys fun _ => empB := ⟨fun _ _ => empB_ok, fun _ _ _ _ => List.prefix_refl _, fun _ _ => rfl⟩
theorem longL_self {l m : List Ent} (h : m <+: l) : longL l m = l := by
  unfold longL
  split
  · rfl
  · exact (h.eq_of_length (by have := h.length_le; omega))
theorem Sys.join {bs : Nat → Book} (h : Sys bs) {j k : Nat} (hj : j < 3) (hk : k < 3) : Sys (setP bs j (joinL (bs j) (bs k))) := by
  have hown : ∀ i, i < 3 → setP bs j (joinL (bs j) (bs k)) i i = bs i i := fun i hi => by
    by_cases e : i = j
    · subst e
      rw [setP_same]
      exact longL_self (h.own k hk i hi)
    · rw [setP_other _ _ e]
  refine ⟨fun x hx => ?_, fun x hx i hi => ?_, fun x hx => ?_⟩
  · by_cases e : x = j
    · subst e; rw [setP_same]; exact joinL_ok (h.ok x hx) (h.ok k hk)
    · rw [setP_other _ _ e]; exact h.ok x hx
  · rw [hown i hi]
    by_cases e : x = j
    · subst e; rw [setP_same]; exact longL_under (h.own x hx i hi) (h.own k hk i hi)
    · rw [setP_other _ _ e]; exact h.own x hx i hi
  · by_cases e : x = j
    · subst e
      rw [setP_same]
      unfold joinL
      rw [h.none x hx, h.none k hk]; rfl
    · rw [setP_other _ _ e]; exact h.none x hx
theorem doB_cases (b : Book) (n : Nat) (line : ByteArray) : (doB b n line).2.2 = b ∨ (doB b n line).2.2 = addAt b n (newE b n line) := by
  unfold doB
  split
  · exact .inl rfl
  · split
    · exact .inl rfl
    · split
      · exact .inl rfl
      · split
        · exact .inr rfl
        · exact .inl rfl
theorem Sys.add {bs : Nat → Book} (h : Sys bs) {j : Nat} (hj : j < 3) (line : ByteArray) : Sys (setP bs j (doB (bs j) j line).2.2) := by
  have hok := doB_ok (h.ok j hj) (show j < 4 by omega) line
  rcases doB_cases (bs j) j line with e | e
  · rw [e]
    have : setP bs j (bs j) = bs := by
      funext x
      by_cases ex : x = j
      · subst ex; rw [setP_same]
      · rw [setP_other _ _ ex]
    rw [this]; exact h
  · rw [e] at hok ⊢
    have hoth : ∀ i, i ≠ j → addAt (bs j) j (newE (bs j) j line) i = bs j i := fun i hi => setB_other _ _ hi
    have hown : ∀ i, i < 3 → bs i i <+: setP bs j (addAt (bs j) j (newE (bs j) j line)) i i := fun i hi => by
      by_cases e : i = j
      · subst e
        rw [setP_same]
        unfold addAt
        rw [setB_same]
        exact List.prefix_append _ _
      · rw [setP_other _ _ e]; exact List.prefix_refl _
    refine ⟨fun x hx => ?_, fun x hx i hi => ?_, fun x hx => ?_⟩
    · by_cases ex : x = j
      · subst ex; rw [setP_same]; exact hok
      · rw [setP_other _ _ ex]; exact h.ok x hx
    · by_cases ex : x = j
      · subst ex
        by_cases ei : i = x
        · subst ei; exact List.prefix_refl _
        · rw [setP_same, hoth i ei, setP_other _ _ ei]; exact h.own x hx i hi
      · rw [setP_other _ _ ex]; exact (h.own x hx i hi).trans (hown i hi)
    · by_cases ex : x = j
      · subst ex; rw [setP_same, hoth 3 (by omega)]; exact h.none x hx
      · rw [setP_other _ _ ex]; exact h.none x hx

def lineT (e : Ent) : List UInt8 := Lib.itoa (ePost e) ++ 32 :: (Lib.itoa (eNum e) ++ 32 :: (Lib.itoa (eCnt e) ++ 32 :: ((eLine e).data.toList ++ [10])))
def textL (l : List Ent) : List UInt8 := l.flatMap lineT
def textB (b : Book) : ByteArray := bsB (textL (allB b))
theorem BookEq.text {b c : Book} (h : BookEq b c) : textB b = textB c := by unfold textB; rw [h.all]
theorem itoa_no10 (n : Int) : (10 : UInt8) ∉ Lib.itoa n := fun h => by have := itoa_byte n _ h; simp at this
theorem line_no10 {s : ByteArray} (h : lineB s = true) : (10 : UInt8) ∉ s.data.toList := fun hm => by
  rw [lineB_is, isLineB_iff] at h
  have := h.2 _ hm
  simp at this
end Go.Proofs.YtdfkaijeppdhaaaGreatDoor
