/- Texts of this claim, laid together: Pm. -/
import Derived.Test.YtdfkaijeppdhaaaGreatDoorZEr01
import Derived.Test.YtdfkaijeppdhaaaGreatDoorZEr03
import Derived.Lib.AppendIntMem
import Derived.KernelRfl

/- Posts in memory, together; the variables of the library. -/
namespace Go.Proofs.YtdfkaijeppdhaaaGreatDoor
open Go.RowKit Go.Shelf
/-- The variables of the library that the program reads. -/
structure Vars (w : World) : Prop where
  ml : ∃ m, w.cell? ⟨0, 0, none⟩ = some (.int .i64 m)
  tab : Lib.TabIs Tryz.prog w "internal/strconv.uint64pow10" .u64 Lib.pow10Tab
  es : ∃ ev, w.cell? ⟨2, 0, none⟩ = some ev ∧ (ev = .nilIface ∨ ∃ te pe, ev = .iface te pe)
  er : ∃ ev, w.cell? ⟨3, 0, none⟩ = some ev ∧ (ev = .nilIface ∨ ∃ te pe, ev = .iface te pe)
/-- The blocks of these variables. -/
def isVar (k : Nat) : Prop := k = 0 ∨ k = 1 ∨ k = 2 ∨ k = 3
theorem tabIs_keep {n : String} {g : Nat} {k : IntKind} {zs : List Int} {w w' : World} (hg : Tryz.prog.globalNamed n = some g) (h : Lib.TabIs Tryz.prog w n k zs) (hk : w'.heap[g]? = w.heap[g]?) : Lib.TabIs Tryz.prog w' n k zs := by
  unfold Lib.TabIs World.var? at h ⊢
  rw [hg] at h ⊢
  simp only [Option.bind_some] at h ⊢
  rw [hk]
  exact h
theorem tabIs_lt {n : String} {g : Nat} {k : IntKind} {zs : List Int} {w : World} (hg : Tryz.prog.globalNamed n = some g) (h : Lib.TabIs Tryz.prog w n k zs) : g < w.heap.size := by
  unfold Lib.TabIs World.var? at h
  rw [hg] at h
  simp only [Option.bind_some] at h
  rcases Nat.lt_or_ge g w.heap.size with h' | h'
  · exact h'
  · rw [Array.getElem?_eq_none h'] at h; cases h
theorem Vars.lt {w : World} (h : Vars w) {k : Nat} (hk : isVar k) : k < w.heap.size := by
  obtain ⟨_, h0⟩ := h.ml
  obtain ⟨_, h1, _⟩ := h.es
  obtain ⟨_, h2, _⟩ := h.er
  rcases hk with rfl | rfl | rfl | rfl
  · exact World.block_lt_of_cell? _ _ h0
  · exact tabIs_lt (g := 1) (by kernel_rfl) h.tab
  · exact World.block_lt_of_cell? _ _ h1
  · exact World.block_lt_of_cell? _ _ h2
theorem Vars.keep {w w' : World} (h : Vars w) (hk : ∀ k, isVar k → w'.heap[k]? = w.heap[k]?) : Vars w' := by
  obtain ⟨m, h0⟩ := h.ml
  obtain ⟨e1, h1, k1⟩ := h.es
  obtain ⟨e2, h2, k2⟩ := h.er
  exact ⟨⟨m, (World.cell?_of_block (hk _ (.inl rfl))).trans h0⟩, tabIs_keep (g := 1) (by kernel_rfl) h.tab (hk _ (.inr (.inl rfl))),
    ⟨e1, (World.cell?_of_block (hk _ (.inr (.inr (.inl rfl))))).trans h1, k1⟩, ⟨e2, (World.cell?_of_block (hk _ (.inr (.inr (.inr rfl))))).trans h2, k2⟩⟩
theorem Vars.below {w w' : World} (h : Vars w) (hb : Below w.heap.size w w') : Vars w' := h.keep fun k hk => hb.block k (h.lt hk)

/-- A post: its block, the blocks it stands on, its number, its book. -/
structure Pst where
  P : Nat
  F : List Nat
  n : Nat
  b : Book
/-- Posts together, each on blocks of its own, none on a variable of the library. -/
structure Posts (w : World) (m : Nat) (ps : Nat → Pst) : Prop where
  vars : Vars w
  post : ∀ i, i < m → PostAt w (ps i).P (ps i).F (ps i).n (ps i).b
  apart : ∀ i j, i < m → j < m → i ≠ j → ∀ k ∈ (ps i).F, k ∉ (ps j).F
  free : ∀ i, i < m → ∀ k ∈ (ps i).F, ¬ isVar k
def setS (ps : Nat → Pst) (j : Nat) (p : Pst) : Nat → Pst := fun k => if k = j then p else ps k
theorem setS_same (ps : Nat → Pst) (j : Nat) (p : Pst) : setS ps j p j = p := by simp [setS]
theorem setS_other (ps : Nat → Pst) {j k : Nat} (p : Pst) (h : k ≠ j) : setS ps j p k = ps k := by simp [setS, h]
/-- Blocks of F are new, or of G. -/
def NewOr (w : World) (G F : List Nat) : Prop := ∀ k ∈ F, k ∈ G ∨ w.heap.size ≤ k
theorem Posts.nil {w : World} (hv : Vars w) (ps : Nat → Pst) : Posts w 0 ps := ⟨hv, fun i h => by omega, fun i j h => by omega, fun i h => by omega⟩
theorem Posts.lt {w : World} {m : Nat} {ps : Nat → Pst} (h : Posts w m ps) {i : Nat} (hi : i < m) {k : Nat} (hk : k ∈ (ps i).F) : k < w.heap.size := (h.post i hi).lt hk
theorem Posts.keep {w w' : World} {m : Nat} {ps : Nat → Pst} (h : Posts w m ps) (hv : ∀ k, isVar k → w'.heap[k]? = w.heap[k]?) (hk : ∀ i, i < m → ∀ k ∈ (ps i).F, w'.heap[k]? = w.heap[k]?) : Posts w' m ps :=
  ⟨h.vars.keep hv, fun i hi => (h.post i hi).keep (hk i hi), h.apart, h.free⟩
theorem Posts.below {w w' : World} {m : Nat} {ps : Nat → Pst} (h : Posts w m ps) (hb : Below w.heap.size w w') : Posts w' m ps :=
  h.keep (fun k hk => hb.block k (h.vars.lt hk)) fun _ hi k hk => hb.block k (h.lt hi hk)
/-- One of them has turned. -/
theorem Posts.turn {w w' : World} {m : Nat} {ps : Nat → Pst} (h : Posts w m ps) {i : Nat} (hi : i < m) {p : Pst} (hp : PostAt w' p.P p.F p.n p.b) (hF : NewOr w (ps i).F p.F) (ho : Off (ps i).F w w') : Posts w' m (setS ps i p) := by
  refine ⟨h.vars.keep fun k hk => ho.block k (h.vars.lt hk) fun hm => h.free i hi k hm hk, fun j hj => ?_, fun a c ha hc hac k hk => ?_, fun j hj k hk => ?_⟩
  · by_cases e : j = i
    · subst e; rw [setS_same]; exact hp
    · rw [setS_other _ _ e]
      exact (h.post j hj).off ho (h.apart j i hj hi e)
  · by_cases ea : a = i
    · subst ea
      rw [setS_same] at hk
      rw [setS_other _ _ (Ne.symm hac)]
      intro hk2
      rcases hF k hk with h1 | h1
      · exact h.apart a c ha hc hac k h1 hk2
      · have := h.lt hc hk2; omega
    · rw [setS_other _ _ ea] at hk
      by_cases ec : c = i
      · subst ec
        rw [setS_same]
        intro hk2
        rcases hF k hk2 with h1 | h1
        · exact h.apart a c ha hc hac k hk h1
        · have := h.lt ha hk; omega
      · rw [setS_other _ _ ec]
        exact h.apart a c ha hc hac k hk
  · by_cases e : j = i
    · subst e
      rw [setS_same] at hk
      rcases hF k hk with h1 | h1
      · exact h.free j hj k h1
      · intro hv; have := h.vars.lt hv; omega
    · rw [setS_other _ _ e] at hk
      exact h.free j hj k hk
/-- A new one. -/
theorem Posts.grow {w w' : World} {m : Nat} {ps : Nat → Pst} (h : Posts w m ps) {p : Pst} (hp : PostAt w' p.P p.F p.n p.b) (hF : NewOr w [] p.F) (hb : Below w.heap.size w w') : Posts w' (m + 1) (setS ps m p) := by
  have hnew : ∀ k ∈ p.F, w.heap.size ≤ k := fun k hk => (hF k hk).resolve_left (by simp)
  refine ⟨h.vars.below hb, fun j hj => ?_, fun a c ha hc hac k hk => ?_, fun j hj k hk => ?_⟩
  · by_cases e : j = m
    · subst e; rw [setS_same]; exact hp
    · rw [setS_other _ _ e]
      exact (h.post j (by omega)).below hb
  · by_cases ea : a = m
    · subst ea
      rw [setS_same] at hk
      rw [setS_other _ _ (Ne.symm hac)]
      intro hk2
      have := h.lt (by omega) hk2
      have := hnew k hk
      omega
    · rw [setS_other _ _ ea] at hk
      by_cases ec : c = m
      · subst ec
        rw [setS_same]
        intro hk2
        have := h.lt (by omega) hk
        have := hnew k hk2
        omega
      · rw [setS_other _ _ ec]
        exact h.apart a c (by omega) (by omega) hac k hk
  · by_cases e : j = m
    · subst e
      rw [setS_same] at hk
      intro hv
      have := h.vars.lt hv
      have := hnew k hk
      omega
    · rw [setS_other _ _ e] at hk
      exact h.free j (by omega) k hk
/-- Any choice among them. -/
theorem Posts.pick {w : World} {m r : Nat} {ps : Nat → Pst} (h : Posts w m ps) (f : Nat → Nat) (hf : ∀ i, i < r → f i < m) (hi : ∀ i j, i < r → j < r → i ≠ j → f i ≠ f j) : Posts w r fun i => ps (f i) :=
  ⟨h.vars, fun i hr => h.post _ (hf i hr), fun i j hr hs hij k hk => h.apart _ _ (hf i hr) (hf j hs) (hi i j hr hs hij) k hk, fun i hr => h.free _ (hf i hr)⟩
end Go.Proofs.YtdfkaijeppdhaaaGreatDoor
