/- A law for ranging over a function that turns its own row between two rounds. -/
import Derived.Test.YtaakefjblldccaaA
import Derived.RangeFuncWrites
namespace Go.Proofs.Ytaakefjblldccaa
open Go.RowKit

/-- What an iterator does whose row lies beyond what was there. -/
def SeqLow {α : Type} (F : Fence) (n m0 n0 : Nat) (P : Program) (gf : Nat) (lb : Array Value) (Row : Nat → α → Value → World → Prop) (xs : List α) (w0 : World) : Prop :=
  ∀ (l : Nat) (J : List α → World → Prop) (W : World), Below w0.heap.size w0 W →
    (∀ pre X X', Below W.heap.size X X' → J pre X → J pre X') →
    (∀ m, m0 ≤ m → ∀ pre x v X, pre.length < xs.length → W.heap.size ≤ X.heap.size → J pre X → Row W.heap.size x v X → YieldAt F m P l #[v] X fun e X' =>
      e = .returned (.bool true) ∧ J (pre ++ [x]) X' ∧ X.heap.size ≤ X'.heap.size ∧ ∀ k, n0 ≤ k → k < X.heap.size → X'.heap[k]? = X.heap[k]?) →
    J [] W → CallsIn F n P gf (#[.func (.yield l) #[] #[]] ++ lb) W fun e W' => (∃ v, e = .returned v) ∧ J xs W'

theorem range_low {F : Fence} {n m0 n0 : Nat} {P : Program} {α : Type} {g : Operand} {ps : Array Tmp} {assign body : Code} {Q : Exit → Act → World → Prop} {a : Act} {w : World}
    (hro : F.round = none) (h1 : 1 ≤ n) {gf : Nat} {lb : Array Value} (hg : a.eval g = .func (.func gf) #[] lb) (hFg : F.fn gf) (eg : ∀ args w, (callFunc gf args).run P w = .ok (.enter gf args) w)
    {Row : Nat → α → Value → World → Prop} {xs : List α} {w0 : World} (hseq : SeqLow F (n - 1) m0 n0 P gf lb Row xs w0) (hn0 : n0 ≤ w0.heap.size) (hb0 : Below w0.heap.size w0 w) (hps : ps.size = 1)
    (hRow : ∀ B x v X X', (∀ k, B ≤ k → X'.heap[k]? = X.heap[k]?) → Row B x v X → Row B x v X')
    (I : List α → World → Prop) (hI : ∀ pre X X', Below w.heap.size X X' → I pre X → I pre X') (h0 : I [] w) (a₁ : Value → Act)
    (hassign : ∀ (l m : Nat) (v : Value) (W : World) (K : Act → World → Prop), K (a₁ v) W →
      assign.wpIn (F.inRound l) m P (Exit.then K (fun _ _ _ => False)) { tmps := (ps.zip #[v]).foldl (fun t (p, v) => t.setIfInBounds p v) a.tmps, defers := [] } W)
    (hbody : ∀ (l m : Nat) (pre : List α) (x : α) (v : Value) (X : World), m0 ≤ m → pre.length < xs.length → w.heap.size + 2 ≤ X.heap.size → I pre X → Row (w.heap.size + 2) x v X →
      body.wpIn (F.inRound l) m P (fun e _ X' => e = .normal ∧ I (pre ++ [x]) X' ∧ X.heap.size ≤ X'.heap.size ∧ ∀ k, n0 ≤ k → k < X.heap.size → X'.heap[k]? = X.heap[k]?) (a₁ v) X)
    (hdone : ∀ (W : World), I xs W → W.heap[w.heap.size]? = some (.deferred (some [])) → Q .normal { a with defers := { target := .collected w.heap.size, args := #[] } :: a.defers } W) :
    (Code.rangeFunc g ps assign body).wpIn F n P Q a w := by
  have hn1 : n0 ≤ w.heap.size := Nat.le_trans hn0 hb0.size
  refine wpIn_rangeFunc ?_
  intro fn hfn
  rw [hro]
  obtain ⟨rec, hrec⟩ : ∃ rec : LoopState → Option Code → Loop, rec = fun st pe => { state := st, pending := pe, fn, tmps := a.tmps, params := ps, assign, body, defers := w.heap.size } := ⟨_, rfl⟩
  obtain ⟨W1, hW1⟩ : ∃ W1, (w.alloc (.deferred (some []))).alloc (.loop (rec .ready none)) = W1 := ⟨_, rfl⟩
  have hs1 : W1.heap.size = w.heap.size + 2 := by rw [← hW1]; simp
  have hL1 : W1.heap[w.heap.size + 1]? = some (.loop (rec .ready none)) := by
    rw [← hW1]; have := World.alloc_heap_new (w.alloc (.deferred (some []))) (.loop (rec .ready none)); rwa [World.size_alloc] at this
  have hK1 : W1.heap[w.heap.size]? = some (.deferred (some [])) := by
    rw [← hW1]; exact (Below.heap_alloc _ _ _ (by simp)).trans (World.alloc_heap_new w _)
  have hbw : Below w.heap.size w W1 := by rw [← hW1]; exact (((Below.refl _ w).alloc (Nat.le_refl _) _).alloc (by simp) _)
  have hI1 : I [] W1 := hI _ _ _ hbw h0
  have hb1 : Below w0.heap.size w0 W1 := hb0.trans (hbw.mono hb0.size)
  refine ⟨w.heap.size + 1, [{ target := .collected w.heap.size, args := #[] }], W1, { target := .fn (.func gf) lb, args := #[.func (.yield (w.heap.size + 1)) #[] #[]] }, W1, gf,
    #[.func (.yield (w.heap.size + 1)) #[] #[]] ++ lb, W1, ?_, ?_, ?_, ?_, fun _ => h1, ?_⟩
  · rw [← hW1, hrec]; exact run_enterLoop_outer _ _ _ _ _
  · simp only [resolve, hg]
    simp [go_sem]
  · intro f' hf'; simp [Target.leads] at hf'; subst hf'; exact hFg
  · simp [invoke, go_sem, eg]
  · refine (hseq (w.heap.size + 1)
      (fun pre W => I pre W ∧ W.heap[w.heap.size + 1]? = some (.loop (rec .ready none)) ∧ W.heap[w.heap.size]? = some (.deferred (some [])))
      W1 hb1 (fun pre X X' hX h => ⟨hI _ _ _ (hX.mono (by omega)) h.1, (hX.block _ (by omega)).trans h.2.1, (hX.block _ (by omega)).trans h.2.2⟩) ?_ ⟨hI1, hL1, hK1⟩).mono ?_
    · rintro m hm pre x v X hlen hX ⟨hi, hl, hk⟩ hr
      rw [hs1] at hX hr
      have hlt : w.heap.size + 1 < X.heap.size := (Array.getElem?_eq_some_iff.1 hl).1
      have hy := run_yield (P := P) (args := #[v]) hl (by rw [hrec]; exact hps.symm)
      rw [hrec] at hy
      refine ⟨fn, _, assign, body, hy, roundIn_of_wpIn hfn (hassign _ m v X _ ⟨_, run_beginRound hl (by rw [hrec]), ?_⟩)⟩
      have hoth : ∀ (A : World) (o : Obj) (k : Nat), k ≠ w.heap.size + 1 → (A.putObj (w.heap.size + 1) o).heap[k]? = A.heap[k]? := fun A o k hk => World.putObj_heap_other hk
      have hl2 : (X.putObj (w.heap.size + 1) (.loop { rec .ready none with state := .busy })).heap[w.heap.size + 1]? = some (.loop { rec .ready none with state := .busy }) := World.putObj_heap_same hlt
      have hbp : ∀ (A : World) (o : Obj), Below w.heap.size A (A.putObj (w.heap.size + 1) o) := fun A o => ⟨rfl, rfl, rfl, by simp [World.putObj], fun k hk => hoth A o k (by omega)⟩
      have hsz : ∀ (A : World) (o : Obj), (A.putObj (w.heap.size + 1) o).heap.size = A.heap.size := fun A o => by simp [World.putObj]
      refine wpIn_mono (hbody _ m pre x v _ hm hlen (by rw [hsz]; exact hX) (hI _ _ _ (hbp _ _) hi) (hRow _ _ _ _ _ (fun k hk => hoth _ _ k (by omega)) hr)) ?_
      rintro e a3 W3 ⟨rfl, hi3, hs3, hk3⟩
      rw [hsz] at hs3 hk3
      have hl3 := (hk3 (w.heap.size + 1) (by omega) hlt).trans hl2
      have he := run_endRound (P := P) none hl3
      rw [hrec] at he
      refine ⟨_, _, he, rfl, ⟨hI _ _ _ (hbp _ _) hi3, ?_, ?_⟩, by rw [hsz]; exact hs3, fun k hk1 hk2 => ?_⟩
      · rw [World.putObj_heap_same (Array.getElem?_eq_some_iff.1 hl3).1, hrec]; rfl
      · rw [hoth _ _ _ (by omega), hk3 _ hn1 (by omega), hoth _ _ _ (by omega)]; exact hk
      · by_cases hkl : k = w.heap.size + 1
        · subst hkl
          rw [World.putObj_heap_same (Array.getElem?_eq_some_iff.1 hl3).1, hl, hrec]; rfl
        · rw [hoth _ _ _ hkl, hk3 _ hk1 hk2, hoth _ _ _ hkl]
    · rintro e W2 ⟨⟨v, rfl⟩, hi, hl, hk⟩
      have hbp2 : ∀ (A : World) (o : Obj), Below w.heap.size A (A.putObj (w.heap.size + 1) o) := fun A o => ⟨rfl, rfl, rfl, by simp [World.putObj], fun k hk => World.putObj_heap_other (by omega)⟩
      exact ⟨none, _, by have := run_endLoop (P := P) hl (by rw [hrec]; simp); rw [hrec] at this; exact this, hdone _ (hI _ _ _ (hbp2 _ _) hi) ((World.putObj_heap_other (by omega)).trans hk)⟩

end Go.Proofs.Ytaakefjblldccaa
