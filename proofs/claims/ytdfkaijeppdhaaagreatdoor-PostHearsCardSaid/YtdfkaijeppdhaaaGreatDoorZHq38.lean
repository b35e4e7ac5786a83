/- Texts of this claim, laid together: Mk. -/
import Derived.OrdersHeld
import Derived.OrdersIn
import Derived.RangeFuncCalls
import Derived.OwnWalkIn
import Derived.RangeFuncLeaves
import Derived.RangeFuncNested
import Derived.Deep.RegionHeld

/- A region that draws its order, in a round of a range over a function: by the laws of the plain walk. -/
namespace Go.Proofs.YtdfkaijeppdhaaaGreatDoor
open Go.RowKit
/-- No operation of the list defers a call. -/
def noDeferP (ops : Array Oper) : Bool := ops.all fun o => match o.op with | .defer _ => false | _ => true
theorem noDeferP_at {ops : Array Oper} (h : noDeferP ops = true) {i : Nat} {o : Oper} (ho : ops[i]? = some o) : ∀ c, o.op ≠ .defer c := by
  intro c hc
  unfold noDeferP at h
  obtain ⟨hi, rfl⟩ := Array.getElem?_eq_some_iff.1 ho
  have := (Array.all_eq_true.1 h) i hi
  rw [hc] at this
  cases this

theorem upon_roundP {P : Program} {o : Oper} {a : Act} {next next' K : Act → World → Prop} {Q : Exit → Act → World → Prop} {n l : Nat} (hn : ∀ a w, next a w → next' a w) {r : Result Next}
    (h : o.upon P a next (Exit.then K fun _ _ _ => False) r) : o.uponIn (Fence.wide.inRound l) n P a next' Q r := by
  have hd : ∀ m : Nat, (Fence.wide.inRound l).depth.isSome = true → 1 ≤ m := fun m h => by simp [Fence.wide] at h
  cases r with
  | ok x w' =>
    cases x <;> simp only [Oper.upon, Oper.uponIn] at h ⊢
    case value v => exact hn _ _ h
    case skip => exact hn _ _ h
    case defer d => exact hn _ _ h
    case enter f args =>
      refine ⟨hd n, CallsIn.inRound l (callsIn_wide.2 (Calls.mono h fun e w'' he => ?_))⟩
      cases e with
      | returned v => exact hn _ _ he
      | panicked chain => exact (he : False).elim
      | outgrown => obtain ⟨_, _, h'⟩ := he; exact (h' : False).elim
    case row row args => exact ⟨hd n, fun c cs _ => let ⟨v, w'', r, s⟩ := h c cs; ⟨v, w'', hn _ _ r, stepsIn_wide.2 s⟩⟩
  | halt x w' =>
    cases x <;> simp only [Oper.upon, Oper.uponIn] at h ⊢
    exact (h : False).elim

theorem wpOp_roundP {P : Program} {ops : Array Oper} {K next next' : Act → World → Prop} {Q : Exit → Act → World → Prop} {n l i : Nat} {a : Act} {w : World} (hnd : noDeferP ops = true) (hn : ∀ a w, next a w → next' a w)
    (h : wpOp P ops (Exit.then K fun _ _ _ => False) i next a w) : wpOpIn (Fence.wide.inRound l) n P ops Q i next' a w := by
  unfold wpOp at h
  unfold wpOpIn
  cases ho : ops[i]? with
  | none => rw [ho] at h; exact hn _ _ h
  | some o =>
    simp only [ho] at h ⊢
    split
    · rename_i hw
      simp only [hw, if_true] at h
      rcases h with h | ⟨_, a', w', h'⟩
      · refine ⟨fun f _ => trivial, ?_⟩
        rw [Oper.semAt_eq _ _ _ (noDeferP_at hnd ho)]
        exact upon_roundP hn h
      · exact (h' : False).elim
    · rename_i hw
      simp only [hw] at h
      exact ⟨fun f _ => trivial, hn _ _ h⟩

theorem wpAny_roundP {P : Program} {md : Region.Mode} {ops : Array Oper} {K : Act → World → Prop} {Q : Exit → Act → World → Prop} {n l : Nat} (hnd : noDeferP ops = true) (hK : ∀ a w, K a w → Q .normal a w) :
    ∀ (fuel : Nat) (listed : Array Bool) (a : Act) (w : World), wpAny P md ops (Exit.then K fun _ _ _ => False) fuel listed a w → wpAnyIn (Fence.wide.inRound l) n P md ops Q fuel listed a w
  | 0, _, _, _, h => ⟨h.1, hK _ _ h.2⟩
  | fuel + 1, _, _, _, h => ⟨fun h0 => hK _ _ (h.1 h0), fun i hi => wpOp_roundP hnd (fun a' w' h' => wpAny_roundP hnd hK fuel _ a' w' h') (h.2 i hi)⟩

/-- **A region in a round**: whatever order is picked, S holding all the way. -/
theorem region_roundP {P : Program} {id n l : Nat} {ops : Array Oper} {K : Act → World → Prop} {Q : Exit → Act → World → Prop} {a : Act} {w : World} (S : World → Prop) (hm : P.follows .mixedOrders = true) (hnd : noDeferP ops = true) (hK : ∀ a w, K a w → Q .normal a w)
    (h : wpAnyH P .any ops (Exit.then K fun _ _ _ => False) S ops.size (Array.replicate ops.size false) a w.drew) : (Code.region id ops true).wpIn (Fence.wide.inRound l) n P Q a w :=
  wpIn_region_any hm (wpAny_roundP hnd hK _ _ _ _ (wpAny_of_held _ _ _ _ h))

/-- The marks that rounds have left: blocks with no deferred calls. -/
def MarksAt (B : Nat) (ms : List Nat) (W : World) : Prop := ms.Nodup ∧ ∀ D ∈ ms, B ≤ D ∧ W.heap[D]? = some (.deferred (some []))
def markOf (D : Nat) : Deferred := { target := .collected D, args := #[] }
theorem MarksAt.nil (B : Nat) (W : World) : MarksAt B [] W := ⟨List.nodup_nil, fun D h => by simp at h⟩
theorem MarksAt.cons {B D : Nat} {ms : List Nat} {W : World} (h : MarksAt B ms W) (hB : B ≤ D) (hD : W.heap[D]? = some (.deferred (some []))) (hn : D ∉ ms) : MarksAt B (D :: ms) W :=
  ⟨List.nodup_cons.2 ⟨hn, h.1⟩, fun x hx => by
    rcases List.mem_cons.1 hx with rfl | hx
    · exact ⟨hB, hD⟩
    · exact h.2 x hx⟩
theorem MarksAt.kept {B : Nat} {ms : List Nat} {W W' : World} (h : MarksAt B ms W) (hk : ∀ D ∈ ms, W'.heap[D]? = W.heap[D]?) : MarksAt B ms W' :=
  ⟨h.1, fun D hD => ⟨(h.2 D hD).1, (hk D hD).trans (h.2 D hD).2⟩⟩

/-- A function that has left such marks leaves. -/
theorem leaves_marks {P : Program} {n : Nat} {fn : Func} {tmps : Array Value} {R : Ending → World → Prop} {B : Nat} : ∀ (ms : List Nat) (W : World), MarksAt B ms W →
    (∀ W', (∀ k, k ∉ ms → W'.heap[k]? = W.heap[k]?) → W.heap.size ≤ W'.heap.size → Below B W W' → LeavesIn Fence.wide n P fn tmps R [] .returning W') →
    LeavesInM Fence.wide n P fn tmps R (ms.map markOf) .returning W
  | [], W, _, h => h W (fun _ _ => rfl) (Nat.le_refl _) (Below.refl _ _)
  | D :: ms, W, hm, h => by
    obtain ⟨hn, hall⟩ := hm
    rw [List.nodup_cons] at hn
    obtain ⟨hBD, hD⟩ := hall D (by simp)
    refine ⟨by simp, .inl ⟨D, _, rfl, run_takeDeferred hD, ?_⟩⟩
    have hoth : ∀ k, k ≠ D → (W.putObj D (.deferred none)).heap[k]? = W.heap[k]? := fun k hk => World.putObj_heap_other hk
    refine leaves_marks ms _ ⟨hn.2, fun x hx => ⟨(hall x (by simp [hx])).1, (hoth x (fun e => hn.1 (e ▸ hx))).trans (hall x (by simp [hx])).2⟩⟩ fun W' h1 h2 h3 => ?_
    refine h W' (fun k hk => (h1 k (fun h' => hk (by simp [h']))).trans (hoth k (fun e => hk (by simp [e])))) (Nat.le_trans (by simp) h2) ?_
    exact ((Below.refl B W).grown (grownBy_putObj' W D (.deferred none)) (by have := (Array.getElem?_eq_some_iff.1 hD).1; omega) (fun k e => by cases e; exact hBD)).trans h3

/-- An operation of a region that draws its order, taken first, whatever its value. -/
theorem takeZ {P : Program} {ops : Array Oper} {Q : Exit → Act → World → Prop} {md : Region.Mode} {S : World → Prop} {i : Nat} {oi : Oper} {fuel : Nat} {listed : Array Bool} {a : Act} {w : World} (hi : ops[i]? = some oi)
    (hs : Region.noSelect ops = true) (hf : Region.free md ops listed i = true) (hr : (Region.ready md ops listed).contains i = true)
    (hQ : ∀ v c a w, Q (.panic c) (a.put oi.dst v) w → Q (.panic c) a w) (hw : Region.wanted oi (yielded ops a.tmps) = true) (hS : S w)
    (h : ∃ v, (∀ W, S W → (execOp a.eval oi).run P W = .ok (.value v) W) ∧ wpAnyH P md ops Q S fuel (listed.setIfInBounds i true) (a.put oi.dst v) w) : wpAnyH P md ops Q S (fuel + 1) listed a w := by
  obtain ⟨v, h1, h2⟩ := h
  exact wpAnyH_take hi hs hf hr (hQ v) (Or.inl ⟨hw, h1⟩) hS h2
end Go.Proofs.YtdfkaijeppdhaaaGreatDoor
