/- Texts of this claim, laid together: Rd, Hr, TdData, TdMath. -/
import Derived.Test.YtdfkaijeppdhaaaGreatDoorZHq15
import Derived.Test.YtdfkaijeppdhaaaGreatDoorZHq01
import Derived.Test.YtdfkaijeppdhaaaGreatDoorZHq14
import Derived.OrdersHeld
import Derived.OrdersIn
import Derived.RangeFuncCalls
import Derived.OwnWalkIn
import Derived.RangeFuncLeaves
import Derived.RangeFuncNested
import Derived.RangeFuncBox
import Derived.WalkKit
import Derived.TacticsInMore
import Derived.LoopNIn
import Derived.LoopIn
import Derived.KernelRfl
import Derived.Deep.RegionHeld3
import Derived.Lib.Hide
import Derived.WalkSpells
import Derived.WalkLawsBesides

/- Contract: read of the program. -/
namespace Go.Proofs.YtdfkaijeppdhaaaGreatDoor
open Go.RowKit Go.Shelf
attribute [local go_sem] Oper.semAt_some
/-- No operation of the list defers a call. -/
def noDefer (ops : Array Oper) : Bool := ops.all fun o => match o.op with | .defer _ => false | _ => true
theorem noDefer_at {ops : Array Oper} (h : noDefer ops = true) {i : Nat} {o : Oper} (ho : ops[i]? = some o) : ∀ c, o.op ≠ .defer c := by
  intro c hc
  unfold noDefer at h
  obtain ⟨hi, rfl⟩ := Array.getElem?_eq_some_iff.1 ho
  have := (Array.all_eq_true.1 h) i hi
  rw [hc] at this
  cases this

theorem upon_round {P : Program} {o : Oper} {a : Act} {next next' K : Act → World → Prop} {Q : Exit → Act → World → Prop} {n l : Nat} (hn : ∀ a w, next a w → next' a w) {r : Result Next}
    (h : o.upon P a next (Exit.then K fun _ _ _ => False) r) : o.uponIn (Fence.wide.inRound l) n P a next' Q r := by
  have hd : ∀ m : Nat, (Fence.wide.inRound l).depth.isSome = true → 1 ≤ m := fun m h => by simp [Fence.wide] at h
  cases r with
  | ok x w' =>
    cases x <;> simp only [Oper.upon, Oper.uponIn] at h ⊢
    case value v => exact hn _ _ h
    case skip => exact hn _ _ h
    case defer d => exact hn _ _ h
    case enter f args =>
      refine ⟨hd n, CallsIn.inRound l (callsIn_wide.2 (Calls.mono h fun e w'' he => ?_))⟩
      cases e with
      | returned v => exact hn _ _ he
      | panicked chain => exact (he : False).elim
      | outgrown => obtain ⟨_, _, h'⟩ := he; exact (h' : False).elim
    case row row args => exact ⟨hd n, fun c cs _ => let ⟨v, w'', r, s⟩ := h c cs; ⟨v, w'', hn _ _ r, stepsIn_wide.2 s⟩⟩
  | halt x w' =>
    cases x <;> simp only [Oper.upon, Oper.uponIn] at h ⊢
    exact (h : False).elim

theorem wpOp_round {P : Program} {ops : Array Oper} {K next next' : Act → World → Prop} {Q : Exit → Act → World → Prop} {n l i : Nat} {a : Act} {w : World} (hnd : noDefer ops = true) (hn : ∀ a w, next a w → next' a w)
    (h : wpOp P ops (Exit.then K fun _ _ _ => False) i next a w) : wpOpIn (Fence.wide.inRound l) n P ops Q i next' a w := by
  unfold wpOp at h
  unfold wpOpIn
  cases ho : ops[i]? with
  | none => rw [ho] at h; exact hn _ _ h
  | some o =>
    simp only [ho] at h ⊢
    split
    · rename_i hw
      simp only [hw, if_true] at h
      rcases h with h | ⟨_, a', w', h'⟩
      · refine ⟨fun f _ => trivial, ?_⟩
        rw [Oper.semAt_eq _ _ _ (noDefer_at hnd ho)]
        exact upon_round hn h
      · exact (h' : False).elim
    · rename_i hw
      simp only [hw] at h
      exact ⟨fun f _ => trivial, hn _ _ h⟩

theorem wpAny_round {P : Program} {md : Region.Mode} {ops : Array Oper} {K : Act → World → Prop} {Q : Exit → Act → World → Prop} {n l : Nat} (hnd : noDefer ops = true) (hK : ∀ a w, K a w → Q .normal a w) :
    ∀ (fuel : Nat) (listed : Array Bool) (a : Act) (w : World), wpAny P md ops (Exit.then K fun _ _ _ => False) fuel listed a w → wpAnyIn (Fence.wide.inRound l) n P md ops Q fuel listed a w
  | 0, _, _, _, h => ⟨h.1, hK _ _ h.2⟩
  | fuel + 1, _, _, _, h => ⟨fun h0 => hK _ _ (h.1 h0), fun i hi => wpOp_round hnd (fun a' w' h' => wpAny_round hnd hK fuel _ a' w' h') (h.2 i hi)⟩

/-- **A region in a round**: whatever order is picked, S holding all the way. -/
theorem region_round {P : Program} {id n l : Nat} {ops : Array Oper} {K : Act → World → Prop} {Q : Exit → Act → World → Prop} {a : Act} {w : World} (S : World → Prop) (hm : P.follows .mixedOrders = true) (hnd : noDefer ops = true) (hK : ∀ a w, K a w → Q .normal a w)
    (h : wpAnyH P .any ops (Exit.then K fun _ _ _ => False) S ops.size (Array.replicate ops.size false) a w.drew) : (Code.region id ops true).wpIn (Fence.wide.inRound l) n P Q a w :=
  wpIn_region_any hm (wpAny_round hnd hK _ _ _ _ (wpAny_of_held _ _ _ _ h))


theorem splitN_eq (c : UInt8) : ∀ (l : List UInt8) (k k' : Nat), l.count c ≤ k → l.count c ≤ k' → splitN c k l = splitN c k' l
  | [], k, k', _, _ => by cases k <;> cases k' <;> rfl
  | b :: r, k, k', h, h' => by
    by_cases hb : b = c
    · subst hb
      rw [List.count_cons_self] at h h'
      obtain ⟨k1, rfl⟩ : ∃ k1, k = k1 + 1 := ⟨k - 1, by omega⟩
      obtain ⟨k2, rfl⟩ : ∃ k2, k' = k2 + 1 := ⟨k' - 1, by omega⟩
      have := splitN_eq b r k1 k2 (by omega) (by omega)
      simp [splitN, this]
    · have hbf : (b == c) = false := by simpa using hb
      rw [List.count_cons_of_ne (by simpa using hb)] at h h'
      have key : ∀ k, List.count c r ≤ k → splitN c k (b :: r) = match splitN c k r with | [] => [[b]] | x :: xs => (b :: x) :: xs := fun k _ => by
        cases k with
        | zero => rw [splitN_zero, splitN_zero]
        | succ k =>
          simp [splitN, hbf]
          rfl
      rw [key k h, key k' h', splitN_eq c r k k' h h']
theorem splitN_le (c : UInt8) : ∀ (k : Nat) (l : List UInt8), (splitN c k l).length ≤ k + 1
  | 0, l => by rw [splitN_zero]; simp
  | k + 1, l => by
    rcases splitN_idx c k l with ⟨_, h⟩ | ⟨i, _, _, h⟩
    · rw [h]; simp
    · rw [h, List.length_cons]; have := splitN_le c k (l.drop (i + 1)); omega
theorem splitB_four (y : ByteArray) : Lib.splitB ⟨#[32]⟩ 0 (min 4 (y.size + 1) - 1) y = splitS 32 3 y := by
  rw [splitB_is]
  unfold splitS
  by_cases h : 3 ≤ y.size
  · rw [show min 4 (y.size + 1) - 1 = 3 by omega]
  · rw [splitN_eq 32 y.data.toList (min 4 (y.size + 1) - 1) 3]
    · have := List.count_le_length (a := (32 : UInt8)) (l := y.data.toList)
      rw [← ba_size] at this; omega
    · have := List.count_le_length (a := (32 : UInt8)) (l := y.data.toList)
      rw [← ba_size] at this; omega
theorem splitS_mem {c : UInt8} {k : Nat} {y x : ByteArray} (h : x ∈ splitS c k y) : x.size ≤ y.size := by
  unfold splitS at h
  obtain ⟨l, hl, rfl⟩ := List.mem_map.1 h
  have key : ∀ (k : Nat) (m : List UInt8), l ∈ splitN c k m → l.length ≤ m.length := by
    intro k
    induction k with
    | zero => intro m hm; rw [splitN_zero] at hm; simp at hm; subst hm; exact Nat.le_refl _
    | succ k ih =>
      intro m hm
      rcases splitN_idx c k m with ⟨_, h⟩ | ⟨i, _, _, h⟩
      · rw [h] at hm; simp at hm; subst hm; exact Nat.le_refl _
      · rw [h] at hm
        rcases List.mem_cons.1 hm with rfl | hm
        · simp; omega
        · have := ih _ hm; simp at this; omega
  have h2 := key k _ hl
  rw [ba_size y]
  exact h2
/-- A line as it is split. -/
def lineC (x : ByteArray) : ByteArray := bsB (trimL x.data.toList)
theorem trimL_le (x : List UInt8) : (trimL x).length ≤ x.length := by
  unfold trimL Lib.trimSuffix
  split
  · simp
  · exact Nat.le_refl _
theorem lineC_size (x : ByteArray) : (lineC x).size ≤ x.size := by
  rw [ba_size x]
  exact trimL_le x.data.toList
theorem linesA_map (s : ByteArray) : (linesA s).map (fun x => trimL x.data.toList) = linesC s.data.toList := by
  unfold linesA
  rw [List.map_map, ← trim_lines]
  rfl
theorem rawL_mem : ∀ (l x : List UInt8), x ∈ rawL l → x.length ≤ l.length
  | [], x, h => by simp [rawL] at h
  | b :: r, x, h => by
    unfold rawL at h
    split at h
    · rcases List.mem_cons.1 h with rfl | h
      · simp
      · have := rawL_mem r x h; simp; omega
    · split at h
      · simp at h; subst h; simp
      · rename_i y ys he
        rcases List.mem_cons.1 h with rfl | h
        · have := rawL_mem r y (by rw [he]; simp); simp; omega
        · have := rawL_mem r x (by rw [he]; simp [h]); simp; omega
theorem linesA_mem {s x : ByteArray} (h : x ∈ linesA s) : x.size ≤ s.size := by
  unfold linesA at h
  obtain ⟨l, hl, rfl⟩ := List.mem_map.1 h
  have h2 := rawL_mem _ _ hl
  rw [ba_size s]
  exact h2
theorem readL_app : ∀ (l1 l2 : List (List UInt8)) (b : Book), readL b (l1 ++ l2) = (readL b l1).bind fun c => readL c l2
  | [], l2, b => rfl
  | x :: l1, l2, b => by
    simp only [List.cons_append, readL]
    cases lineE (bsB x) with
    | none => rfl
    | some e =>
      simp only
      cases addB b e with
      | none => rfl
      | some c => exact readL_app l1 l2 c
/-- What the lines read so far come to. -/
def soFar (pre : List ByteArray) : Option Book := readL empB (pre.map fun x => trimL x.data.toList)
def nextB (b : Book) (x : ByteArray) : Option Book := match lineE (lineC x) with
  | none => none
  | some e => addB b e
theorem soFar_snoc {pre : List ByteArray} {b : Book} (h : soFar pre = some b) (x : ByteArray) : soFar (pre ++ [x]) = nextB b x := by
  unfold soFar at h ⊢
  rw [List.map_append, readL_app, h]
  simp only [Option.bind_some, List.map_cons, List.map_nil, readL, nextB, lineC]
  cases lineE (bsB (trimL x.data.toList)) with
  | none => rfl
  | some e =>
    simp only
    cases addB b e <;> rfl
theorem soFar_bad {s : ByteArray} {pre : List ByteArray} (hp : pre <+: linesA s) (h : soFar pre = none) : readL empB (linesC s.data.toList) = none := by
  obtain ⟨r, hr⟩ := hp
  rw [← linesA_map, ← hr, List.map_append, readL_app]
  unfold soFar at h
  rw [h]; rfl
theorem soFar_all {s : ByteArray} {b : Book} (h : soFar (linesA s) = some b) : readL empB (linesC s.data.toList) = some b := by
  rw [← linesA_map]; exact h
/-- What read hands back. -/
def ReadPost (s : ByteArray) (w : World) (e : Ending) (w' : World) : Prop :=
  (match readB s with
    | some b => ∃ K vs, e = .returned (.tuple #[.pointer (some ⟨K, 0, none⟩), .bool true]) ∧ w.heap.size ≤ K ∧ BookIs w' K vs b ∧ (∀ i, i < 4 → ∀ g, (vs i).ownBlock = some g → w.heap.size ≤ g)
    | none => ∃ pv, e = .returned (.tuple #[pv, .bool false])) ∧ Below w.heap.size w w'

/-- The blocks of read between two rounds. -/
structure RdAt (n0 : Nat) (vs : Nat → Value) (b : Book) (X : World) : Prop where
  p : X.heap[n0]? = some (.cells #[.pointer none] 79 (0, 0))
  ok : X.heap[n0 + 1]? = some (.cells #[.bool false] 4 (0, 0))
  v : X.heap[n0 + 3]? = some (.cells #[.pointer (some ⟨n0 + 2, 0, none⟩)] 79 (0, 0))
  bk : BookIs X (n0 + 2) vs b
  far : ∀ i, i < 4 → ∀ g, (vs i).ownBlock = some g → n0 + 7 ≤ g
theorem RdAt.keep {n0 : Nat} {vs : Nat → Value} {b : Book} {X X' : World} (h : RdAt n0 vs b X) (hk : ∀ k, (n0 ≤ k ∧ k ≤ n0 + 3) ∨ n0 + 7 ≤ k → k < X.heap.size → X'.heap[k]? = X.heap[k]?) : RdAt n0 vs b X' := by
  have lt : ∀ {k o}, X.heap[k]? = some o → k < X.heap.size := fun h => (Array.getElem?_eq_some_iff.1 h).1
  exact ⟨(hk _ (.inl (by omega)) (lt h.p)).trans h.p, (hk _ (.inl (by omega)) (lt h.ok)).trans h.ok, (hk _ (.inl (by omega)) (lt h.v)).trans h.v,
    h.bk.keep (hk _ (.inl (by omega)) h.bk.lt) (fun i hi k hg => hk k (.inr (h.far i hi k hg)) ((h.bk.list i hi).lt hg)), h.far⟩
theorem RdAt.turned {S : Nat → Prop} {n0 : Nat} {vs : Nat → Value} {b : Book} {X X' : World} (h : RdAt n0 vs b X) (ht : Turned S X X') (hs : ∀ k, S k → n0 + 3 < k ∧ k < n0 + 7) : RdAt n0 vs b X' :=
  h.keep fun k hk _ => ht.block k fun h9 => by have := hs k h9; omega
theorem RdAt.below {n0 : Nat} {vs : Nat → Value} {b : Book} {X X' : World} (h : RdAt n0 vs b X) (hb : Below X.heap.size X X') : RdAt n0 vs b X' :=
  h.keep fun k _ hl => hb.block k hl
theorem RdAt.added {n0 p : Nat} {vs : Nat → Value} {b : Book} {e : Ent} {v' : Value} {W W' : World} (h : RdAt n0 vs b W) (hp : p < 4) (hn : n0 + 7 ≤ W.heap.size) (ha : Added (n0 + 2) p vs b e W v' W') : RdAt n0 (setVs vs p v') (addAt b p e) W' := by
  have lt : ∀ {k o}, W.heap[k]? = some o → k < W.heap.size := fun h => (Array.getElem?_eq_some_iff.1 h).1
  have nv : ∀ k, k ≤ n0 + 3 → (vs p).ownBlock ≠ some k := fun k hk e => by have := h.far p hp k e; omega
  have hfar : ∀ i, i < 4 → ∀ g, (setVs vs p v' i).ownBlock = some g → n0 + 7 ≤ g := fun i hi g hg => by
    by_cases e : i = p
    · subst e
      rw [setVs_same] at hg
      rcases ha.own with h5 | ⟨g', h5, h6⟩
      · exact h.far i hi g (by rw [← h5]; exact hg)
      · rw [h5] at hg; injection hg with hg; omega
    · rw [setVs_other _ _ e] at hg
      exact h.far i hi g hg
  refine ⟨(ha.block _ (lt h.p) (by omega) (nv _ (by omega))).trans h.p, (ha.block _ (lt h.ok) (by omega) (nv _ (by omega))).trans h.ok, (ha.block _ (lt h.v) (by omega) (nv _ (by omega))).trans h.v, ⟨ha.cells, fun i hi => ?_, fun i j hi hj hij g hg hg2 => ?_⟩, hfar⟩
  · by_cases e : i = p
    · subst e
      rw [setVs_same]
      unfold addAt
      rw [setB_same]
      exact ha.new
    · rw [setVs_other _ _ e]
      unfold addAt
      rw [setB_other _ _ e]
      exact ha.old i hi
  · have new : ∀ j, j < 4 → j ≠ p → ∀ g, v'.ownBlock = some g → (vs j).ownBlock ≠ some g := fun j hj e g hg h2 => by
      rcases ha.own with h5 | ⟨g', h5, h6⟩
      · exact h.bk.apart p j hp hj (Ne.symm e) g (by rw [← h5]; exact hg) h2
      · rw [h5] at hg; injection hg with hg
        have := (h.bk.list j hj).lt h2; omega
    by_cases ei : i = p
    · subst ei
      rw [setVs_same] at hg
      rw [setVs_other _ _ (Ne.symm hij)] at hg2
      exact new j hj (Ne.symm hij) g hg hg2
    · rw [setVs_other _ _ ei] at hg
      by_cases ej : j = p
      · subst ej
        rw [setVs_same] at hg2
        exact new i hi ei g hg2 hg
      · rw [setVs_other _ _ ej] at hg2
        exact h.bk.apart i j hi hj hij g hg hg2

/-- What the loop has between two rounds. -/
def RdI (n0 : Nat) (w : World) (pre : List ByteArray) (X : World) : Prop :=
  ∃ vs b, soFar pre = some b ∧ RdAt n0 vs b X ∧ Below n0 w X
/-- A round has returned. -/
def RdX (s : ByteArray) (n0 : Nat) (w : World) (c : Code) (X : World) : Prop :=
  c = .ret ∧ readB s = none ∧ X.heap[n0]? = some (.cells #[.pointer none] 79 (0, 0)) ∧ X.heap[n0 + 1]? = some (.cells #[.bool false] 4 (0, 0)) ∧ Below n0 w X
theorem readB_none {s : ByteArray} (h : readL empB (linesC s.data.toList) = none) : readB s = none := by unfold readB; rw [h]
theorem RdI.turned {S : Nat → Prop} {n0 : Nat} {w : World} {pre : List ByteArray} {X X' : World} (h : RdI n0 w pre X) (ht : Turned S X X') (hs : ∀ k, S k → n0 + 3 < k ∧ k < n0 + 7) : RdI n0 w pre X' := by
  obtain ⟨vs, b, h1, h2, h3⟩ := h
  exact ⟨vs, b, h1, h2.turned ht hs, h3.trans (ht.below fun k hk => by have := hs k hk; omega)⟩
theorem RdX.turned {S : Nat → Prop} {s : ByteArray} {n0 : Nat} {w : World} {c : Code} {X X' : World} (h : RdX s n0 w c X) (ht : Turned S X X') (hs : ∀ k, S k → n0 + 1 < k) : RdX s n0 w c X' := by
  obtain ⟨h1, h2, h3, h4, h5⟩ := h
  exact ⟨h1, h2, (ht.block _ fun hk => by have := hs _ hk; omega).trans h3, (ht.block _ fun hk => by have := hs _ hk; omega).trans h4, h5.trans (ht.below fun k hk => by have := hs k hk; omega)⟩
theorem box_set {X : World} {b : Nat} {u v : Value} {T : TypeId} {fr : Nat × Nat} (h : X.heap[b]? = some (.cells #[u] T fr)) : (X.setCell ⟨b, 0, none⟩ v).heap[b]? = some (.cells #[v] T fr) := by
  obtain ⟨hlt, hk⟩ := Array.getElem?_eq_some_iff.1 h
  show (X.heap.modify b _)[b]? = _
  rw [Array.getElem?_eq_getElem (by rw [Array.size_modify]; exact hlt), Array.getElem_modify_self, hk]
  simp
theorem set_other {X : World} {b k : Nat} {v : Value} (h : k ≠ b) : (X.setCell ⟨b, 0, none⟩ v).heap[k]? = X.heap[k]? := Below.heap_setCell _ _ _ _ h
/-- The stores of a round that returns. -/
theorem rd_leave {s : ByteArray} {n0 m : Nat} {vs : Nat → Value} {b : Book} {w X Y : World} (hm : m = n0 + 5) (hY : RdAt n0 vs b Y) (hB : Below n0 w Y) (hk : ∀ k, k < X.heap.size → n0 + 3 < k → k < n0 + 7 → Y.heap[k]? = X.heap[k]?) (hX : n0 + 7 ≤ X.heap.size) (hno : readL empB (linesC s.data.toList) = none) :
    (∀ k, (k = m + 1 ∨ k = m ∨ lnS (n0 + 4) k) → ((Y.setCell ⟨n0, 0, none⟩ (.pointer none)).setCell ⟨n0 + 1, 0, none⟩ (.bool false)).heap[k]? = X.heap[k]?) ∧
      RdX s n0 w .ret ((Y.setCell ⟨n0, 0, none⟩ (.pointer none)).setCell ⟨n0 + 1, 0, none⟩ (.bool false)) := by
  refine ⟨fun k hk2 => ?_, rfl, readB_none hno, (set_other (by omega)).trans (box_set hY.p), box_set ((set_other (by omega)).trans hY.ok), ?_⟩
  · have h9 : k = n0 + 4 ∨ k = n0 + 5 ∨ k = n0 + 6 := by
      rcases hk2 with h | h | h
      · omega
      · omega
      · have : k = n0 + 4 := h
        omega
    exact (set_other (by omega)).trans ((set_other (by omega)).trans (hk k (by omega) (by omega) (by omega)))
  · exact (hB.setCell (p := ⟨n0, 0, none⟩) (Nat.le_refl _) _).setCell (p := ⟨n0 + 1, 0, none⟩) (by show n0 ≤ n0 + 1; omega) _

/-- The frame at the loop. -/
def rdAct (s : ByteArray) (n0 : Nat) (x5 x15 : Value) : Act :=
  { tmps := #[.string s, undef, .pointer (some ⟨n0, 0, none⟩), .pointer (some ⟨n0 + 1, 0, none⟩), .pointer (some ⟨n0 + 3, 0, none⟩), x5, undef, undef, undef, undef, undef,
      .agg #[.slice none 0 0, .slice none 0 0, .slice none 0 0, .slice none 0 0], .pointer (some ⟨n0 + 2, 0, none⟩), .string s, .func (.func 125) #[] #[.pointer (some ⟨n0 + 4, 0, none⟩)], x15,
      undef, undef, undef, undef, undef, undef, undef, undef, undef, undef, undef, undef, undef, undef, undef, undef, undef, undef, undef, undef, undef, undef, undef, undef,
      undef, undef, undef, undef, undef, undef, undef, undef, undef, undef, undef, undef, undef, undef, undef, undef, undef], defers := [] }

theorem setCell_three {W : World} {K : Nat} {a b c : Value} {t : TypeId} (h : W.heap[K]? = some (.cells #[a, b, c] t (0, 0))) (i : Nat) (v : Value) : (W.setCell ⟨K, i, none⟩ v).heap[K]? = some (.cells (#[a, b, c].setIfInBounds i v) t (0, 0)) := by
  obtain ⟨hlt, hk⟩ := Array.getElem?_eq_some_iff.1 h
  show (W.heap.modify K _)[K]? = _
  rw [Array.getElem?_eq_getElem (by rw [Array.size_modify]; exact hlt), Array.getElem_modify_self, hk]
  simp
theorem added_below {n0 p : Nat} {vs : Nat → Value} {b : Book} {e : Ent} {v' : Value} {w W W' : World} (h : RdAt n0 vs b W) (hp : p < 4) (hB : Below n0 w W) (hn : n0 + 7 ≤ W.heap.size) (ha : Added (n0 + 2) p vs b e W v' W') : Below n0 w W' :=
  hB.trans ⟨ha.os, ha.tape, ha.output, ha.size, fun k hk => ha.block k (by omega) (by omega) (fun e => by have := h.far p hp k e; omega)⟩
/-- The three numbers of a line, k of them read. -/
def numsV (q : Nat → Int) (k : Nat) : Array Value := #[.int .i64 (if 0 < k then q 0 else 0), .int .i64 (if 1 < k then q 1 else 0), .int .i64 (if 2 < k then q 2 else 0)]
theorem numsV_next (q : Nat → Int) {k : Nat} (hk : k < 3) : (numsV q k).setIfInBounds k (.int .i64 (q k)) = numsV q (k + 1) := by
  rcases (show k = 0 ∨ k = 1 ∨ k = 2 by omega) with rfl | rfl | rfl <;> rfl
/-- What the loop over the three words has between two rounds. -/
structure NumI (z : Nat → ByteArray) (q : Nat → Int) (B : Nat) (X : World) (k : Nat) (Y : World) : Prop where
  row : Y.heap[B]? = some (.cells (numsV q k) 165 (0, 0))
  got : ∀ j, j < k → atoiV (z j) = some (q j)
  below : Below B X Y
theorem NumI.cell {z : Nat → ByteArray} {q : Nat → Int} {B : Nat} {X Y : World} {k : Nat} (h : NumI z q B X k Y) {j : Nat} (hj : j < 3) : Y.cell? ⟨B, j, none⟩ = some (.int .i64 (if j < k then q j else 0)) := by
  rcases (show j = 0 ∨ j = 1 ∨ j = 2 by omega) with rfl | rfl | rfl <;> exact heap_cell h.row rfl
theorem NumI.frozen {z : Nat → ByteArray} {q : Nat → Int} {B : Nat} {X Y : World} {k : Nat} (h : NumI z q B X k Y) (j : Nat) : Y.frozen? ⟨B, j, none⟩ = false := by
  simp [World.frozen?, h.row]
theorem NumI.next {z : Nat → ByteArray} {q : Nat → Int} {B : Nat} {X Y Y' : World} {k : Nat} (h : NumI z q B X k Y) (hk : k < 3) (hb : Below Y.heap.size Y Y') (hB : B ≤ Y.heap.size) (hq : atoiV (z k) = some (q k)) : NumI z q B X (k + 1) (Y'.setCell ⟨B, k, none⟩ (.int .i64 (q k))) := by
  refine ⟨?_, fun j hj => ?_, (h.below.trans (hb.mono hB)).setCell (p := ⟨B, k, none⟩) (Nat.le_refl _) _⟩
  · have h2 := (hb.block _ (Array.getElem?_eq_some_iff.1 h.row).1).trans h.row
    unfold numsV at h2
    rw [setCell_three h2 k, ← numsV_next q hk]
    rfl
  · by_cases e : j = k
    · subst e; exact hq
    · exact h.got j (by omega)

/-- What the last region of a round reads. -/
def SxW (n0 B1 B2 : Nat) (q : Nat → Int) (z3 : ByteArray) (W : World) : Prop :=
  W.cell? ⟨n0 + 3, 0, none⟩ = some (.pointer (some ⟨n0 + 2, 0, none⟩)) ∧ W.cell? ⟨B2, 0, none⟩ = some (.int .i64 (q 0)) ∧ W.cell? ⟨B2, 1, none⟩ = some (.int .i64 (q 1)) ∧ W.cell? ⟨B2, 2, none⟩ = some (.int .i64 (q 2)) ∧ W.cell? ⟨B1, 3, none⟩ = some (.string z3)
theorem SxW.kept {n0 B1 B2 : Nat} {q : Nat → Int} {z3 : ByteArray} {W W' : World} (h : SxW n0 B1 B2 q z3 W) (h1 : W'.heap[n0 + 3]? = W.heap[n0 + 3]?) (h2 : W'.heap[B2]? = W.heap[B2]?) (h3 : W'.heap[B1]? = W.heap[B1]?) : SxW n0 B1 B2 q z3 W' := by
  have key : ∀ {b j v}, W'.heap[b]? = W.heap[b]? → W.cell? ⟨b, j, none⟩ = some v → W'.cell? ⟨b, j, none⟩ = some v := fun hb hc => by
    unfold World.cell? at hc ⊢
    simp only [hb]
    exact hc
  exact ⟨key h1 h.1, key h2 h.2.1, key h2 h.2.2.1, key h2 h.2.2.2.1, key h3 h.2.2.2.2⟩

theorem words_cells {w : World} {a b c d : ByteArray} {N : Nat} {t : TypeId} :
    (w.alloc (.cells (Lib.cellsOf [a, b, c, d] N) t)).heap[w.heap.size]? = some (.cells (Lib.cellsOf [a, b, c, d] N) t (0, 0)) := World.alloc_heap_new w _

/-- The end of read, the results being stored. -/
theorem rd_results {n0 : Nat} {W : World} {tm : Array Value} {r e : Value} (t2 : tm[2]?.getD undef = .pointer (some ⟨n0, 0, none⟩)) (t3 : tm[3]?.getD undef = .pointer (some ⟨n0 + 1, 0, none⟩))
    (k1 : W.cell? ⟨n0, 0, none⟩ = some r) (k2 : W.cell? ⟨n0 + 1, 0, none⟩ = some e) : (results Tryz.f66 tm).run Tryz.prog W = .ok (.tuple #[r, e]) W := by
  simp [results, Tryz.f66, go_sem, t2, t3, k1, k2]
theorem rd_ret {s : ByteArray} {m : Nat} {w W : World} {r e : Value} {tm : Array Value} (t2 : tm[2]?.getD undef = .pointer (some ⟨w.heap.size, 0, none⟩)) (t3 : tm[3]?.getD undef = .pointer (some ⟨w.heap.size + 1, 0, none⟩))
    (h1 : W.heap[w.heap.size]? = some (.cells #[r] 79 (0, 0))) (h2 : W.heap[w.heap.size + 1]? = some (.cells #[e] 4 (0, 0)))
    (hD : W.heap[w.heap.size + 5]? = some (.deferred (some []))) (h0 : m = w.heap.size + 5)
    (h : ReadPost s w (.returned (.tuple #[r, e])) (W.putObj (w.heap.size + 5) (.deferred none))) :
    bodyPostM Fence.wide 6 Tryz.prog Tryz.f66 (ReadPost s w) .ret { tmps := tm, defers := [{ target := .collected m, args := #[] }] } W := by
  rw [h0]
  refine ⟨by simp, .inl ⟨_, _, rfl, run_takeDeferred hD, ?_⟩⟩
  have k1 : (W.putObj (w.heap.size + 5) (.deferred none)).cell? ⟨w.heap.size, 0, none⟩ = some r := heap_cell ((World.putObj_heap_other (by omega)).trans h1) rfl
  have k2 : (W.putObj (w.heap.size + 5) (.deferred none)).cell? ⟨w.heap.size + 1, 0, none⟩ = some e := heap_cell ((World.putObj_heap_other (by omega)).trans h2) rfl
  exact ⟨.tuple #[r, e], rd_results t2 t3 k1 k2, h⟩
def SyW (n0 : Nat) (W : World) : Prop := W.cell? ⟨n0 + 3, 0, none⟩ = some (.pointer (some ⟨n0 + 2, 0, none⟩))

set_option maxRecDepth 100000 in
set_option maxHeartbeats 8000000 in
theorem read_in (s : ByteArray) (w : World) (hV : Vars w) (hs : s.size ≤ 4000000000) :
    CallsIn Fence.wide 6 Tryz.prog 66 #[.string s] w (ReadPost s w) := by
  refine callsIn_of_wp_marks Tryz.func66 rfl trivial ?_ rfl
  simp only [Tryz.ntmps66, List.size_toArray, List.length_cons, List.length_nil, Nat.reduceAdd, Nat.reduceSub, Array.replicate_succ, Array.replicate_zero, List.push_toArray, List.append_toArray, List.nil_append, List.cons_append]
  gi_wp2_with fail
  refine ⟨trivial, callsIn_wide.2 ((lines_any s _).mono ?_)⟩
  rintro e w' ⟨rfl, rfl⟩
  gi_wp2_with fail
  obtain ⟨W0, hW0⟩ : ∃ W0, ((((w.alloc (.cells #[.pointer none] 79)).alloc (.cells #[.bool false] 4)).alloc (.cells #[.slice none 0 0, .slice none 0 0, .slice none 0 0, .slice none 0 0] 96)).alloc (.cells #[.pointer (some ⟨w.heap.size + 1 + 1, 0, none⟩)] 79)).alloc (.cells #[.string s] 9) = W0 := ⟨_, rfl⟩
  have hsz : W0.heap.size = w.heap.size + 5 := by rw [← hW0]; simp
  have hb0 : Below w.heap.size w W0 := by
    rw [← hW0]
    exact (((((Below.refl _ w).alloc (Nat.le_refl _) _).alloc (by simp) _).alloc (by simp; omega) _).alloc (by simp; omega) _).alloc (by simp; omega) _
  have hln : LnAt (w.heap.size + 4) s W0 := by
    have h := lnAt_new s ((((w.alloc (.cells #[.pointer none] 79)).alloc (.cells #[.bool false] 4)).alloc (.cells #[.slice none 0 0, .slice none 0 0, .slice none 0 0, .slice none 0 0] 96)).alloc (.cells #[.pointer (some ⟨w.heap.size + 1 + 1, 0, none⟩)] 79))
    rw [← hW0]
    simpa using h
  have hrd : RdAt w.heap.size (fun _ => .slice none 0 0) empB W0 := by
    have h1 : (w.alloc (.cells #[.pointer none] 79)).heap[w.heap.size]? = some (.cells #[.pointer none] 79 (0, 0)) := World.alloc_heap_new w _
    have h2 := World.alloc_heap_new (w.alloc (.cells #[.pointer none] 79)) (.cells #[.bool false] 4)
    have h3 := World.alloc_heap_new ((w.alloc (.cells #[.pointer none] 79)).alloc (.cells #[.bool false] 4)) (.cells #[.slice none 0 0, .slice none 0 0, .slice none 0 0, .slice none 0 0] 96)
    have h4 := World.alloc_heap_new (((w.alloc (.cells #[.pointer none] 79)).alloc (.cells #[.bool false] 4)).alloc (.cells #[.slice none 0 0, .slice none 0 0, .slice none 0 0, .slice none 0 0] 96)) (.cells #[.pointer (some ⟨w.heap.size + 1 + 1, 0, none⟩)] 79)
    simp only [World.size_alloc] at h2 h3 h4
    have k : ∀ (A : World) (o : Obj) (b : Nat) (x : Obj), A.heap[b]? = some x → (A.alloc o).heap[b]? = some x := fun A o b x h => (Below.heap_alloc _ _ _ (Array.getElem?_eq_some_iff.1 h).1).trans h
    rw [← hW0]
    exact ⟨k _ _ _ _ (k _ _ _ _ (k _ _ _ _ (k _ _ _ _ h1))), k _ _ _ _ (k _ _ _ _ (k _ _ _ _ h2)), k _ _ _ _ h4,
      ⟨k _ _ _ _ (k _ _ _ _ h3), fun i hi => World.ownsRow_nil _ _ _ _, fun i j hi hj hij g hg => by simp [Value.ownBlock] at hg⟩, fun i hi g hg => by simp [Value.ownBlock] at hg⟩
  rw [hW0]
  clear hW0
  have hTI : ∀ (pre : List ByteArray) (X X' : World), Turned (fun k => lnS (w.heap.size + 4) k ∨ k = W0.heap.size + 1) X X' → RdI w.heap.size w pre X → RdI w.heap.size w pre X' := fun pre X X' ht h => h.turned ht (fun k hk => by
    rcases hk with hk | hk
    · have : k = w.heap.size + 4 := hk
      omega
    · omega)
  refine range_out rfl (by omega) (gf := 125) rfl trivial (enters_of Tryz.func125 (by kernel_rfl) rfl)
    (lines1_in 5 (by omega) (w.heap.size + 4) s (by omega)) rfl
    (fun k hk => by have : k = w.heap.size + 4 := hk; omega) (fun k hk => by have : k = w.heap.size + 4 := hk; omega) (fun X hX => hln.below hX)
    (fun pre X => RdI w.heap.size w pre X) (fun c _ X => RdX s w.heap.size w c X)
    hTI
    (fun c pre X X' ht h => h.turned ht (fun k hk => by omega))
    (fun X hX hsX => ⟨fun _ => .slice none 0 0, empB, rfl, hrd.below hX, hb0.trans (hX.mono (by omega))⟩)
    (fun x => rdAct s w.heap.size (.string x) (.string x)) ?assign ?body ?done ?stop
  case assign =>
    intro l m x W K hK
    gi_wp2
    exact hK
  case body =>
    intro pre x X hpre hi hr hd
    obtain ⟨r, hr⟩ := hr
    rw [hsz] at hr hd
    have hrl : w.heap.size + 6 < X.heap.size := (Array.getElem?_eq_some_iff.1 hr).1
    have hmem : x ∈ linesA s := hpre.subset (by simp)
    have hxs := linesA_mem hmem
    have hys := lineC_size x
    obtain ⟨vs, b, hsf, hat, hbX⟩ := hi
    have HSN := Lib.hid (soFar_snoc hsf x)
    have HOK := Lib.hid (readL_ok _ empB_ok hsf)
    have HVX := Lib.hid (hV.below hbX)
    obtain ⟨m, hm⟩ := HVX.out.ml
    have PRE := Lib.hid hpre
    have HAT := Lib.hid hat
    have HBX := Lib.hid hbX
    have HTS := Lib.hid (Tryz.strings_TrimSuffix x ⟨#[10]⟩ X (by omega))
    have e0 : (.string ⟨(Lib.trimSuffix x.data.toList (⟨#[10]⟩ : ByteArray).data.toList).toArray⟩ : Value) = .string (lineC x) := rfl
    rw [e0] at HTS
    have HSPL := Lib.hid (Tryz.strings_SplitN (lineC x) ⟨#[32]⟩ 4 m X (by omega) hm (by decide) (by decide) (by decide))
    rw [splitB_four] at HSPL
    unfold nextB at HSN
    unfold lineE at HSN
    have hmw : ∀ z, z ∈ splitS 32 3 (lineC x) → z.size ≤ 4000000000 := fun z hz => by have := splitS_mem hz; omega
    have hl4 : (splitS 32 3 (lineC x)).length ≤ 4 := by unfold splitS; rw [List.length_map]; exact splitN_le 32 3 _
    generalize hy : lineC x = y at *
    generalize hN : min 4 (y.size + 1) = N at *
    generalize hws : splitS 32 3 y = ws at *
    clear hln hrd hsf hat hbX hTI hm hN hy hws
    unfold rdAct
    by_cases hlen : ws.length < 4
    · have hno : soFar (pre ++ [x]) = none := by
        rw [HSN.out]
        rcases ws with _ | ⟨a, _ | ⟨b', _ | ⟨c, _ | ⟨d, r⟩⟩⟩⟩ <;> first | rfl | (simp at hlen; omega)
      have HNO := Lib.hid (soFar_bad PRE.out hno)
      have hlt : ((ws.length : Nat) : Int) < 4 := by omega
      clear hno hpre hr hd
      gi_wp2_with fail
      refine ⟨trivial, CallsIn.inRound _ (callsIn_wide.2 (HTS.out.mono ?_))⟩
      rintro e X' ⟨rfl, hX'⟩
      obtain rfl := hX'.symm
      gi_wp2_with fail
      refine ⟨trivial, CallsIn.inRound _ (callsIn_wide.2 (HSPL.out.mono ?_))⟩
      rintro e X1 ⟨rfl, hX1⟩
      have HB1 : Hid (Below X.heap.size X X1) := Lib.hid (by rw [hX1]; exact (Below.refl _ X).alloc (Nat.le_refl _) _)
      clear hX1
      have HA1 := Lib.hid (HAT.out.below HB1.out)
      have c2 : (X1).cell? ⟨w.heap.size, 0, none⟩ = some (.pointer none) := heap_cell (HA1.out).p rfl
      have c3 : (X1).cell? ⟨w.heap.size + 1, 0, none⟩ = some (.bool false) := heap_cell (HA1.out).ok rfl
      have f2 : (X1).frozen? ⟨w.heap.size, 0, none⟩ = false := by simp [World.frozen?, (HA1.out).p]
      have f3 : (X1).frozen? ⟨w.heap.size + 1, 0, none⟩ = false := by simp [World.frozen?, (HA1.out).ok]
      gi_wp2
      exact rd_leave hsz HA1.out (HBX.out.trans (HB1.out.mono HBX.out.size)) (fun k h1 _ _ => HB1.out.block k h1) hrl HNO.out
    · obtain ⟨z0, z1, z2, z3, rfl⟩ : ∃ z0 z1 z2 z3, ws = [z0, z1, z2, z3] := by
        rcases ws with _ | ⟨a, _ | ⟨b', _ | ⟨c, _ | ⟨d, _ | ⟨e, r⟩⟩⟩⟩⟩
        · simp at hlen
        · simp at hlen
        · simp at hlen
        · simp at hlen
        · exact ⟨_, _, _, _, rfl⟩
        · simp at hl4
      obtain ⟨z, hz⟩ : ∃ z : Nat → ByteArray, z = fun j => if j = 0 then z0 else if j = 1 then z1 else if j = 2 then z2 else z3 := ⟨_, rfl⟩
      obtain ⟨q, hq⟩ : ∃ q : Nat → Int, q = fun j => (atoiV (z j)).getD 0 := ⟨_, rfl⟩
      have HQ : Hid (∀ j n, atoiV (z j) = some n → q j = n) := Lib.hid (fun j n h => by rw [hq]; simp [h])
      have HZS : Hid (∀ j, j < 4 → (z j).size ≤ 4000000000) := Lib.hid (fun j hj => by
        rw [hz]
        rcases (show j = 0 ∨ j = 1 ∨ j = 2 ∨ j = 3 by omega) with rfl | rfl | rfl | rfl <;> exact hmw _ (by simp))
      have HSN2 : Hid (soFar (pre ++ [x]) = match atoiV (z 0), atoiV (z 1), atoiV (z 2) with | some p, some n, some k => addB b (p, n, k, z 3) | _, _, _ => none) := Lib.hid (by
        rw [HSN.out, show z 0 = z0 by rw [hz]; rfl, show z 1 = z1 by rw [hz]; rfl, show z 2 = z2 by rw [hz]; rfl, show z 3 = z3 by rw [hz]; rfl]
        show (match (match atoiV z0, atoiV z1, atoiV z2 with | some p, some n, some k => some (p, n, k, z3) | _, _, _ => none) with | none => none | some e => addB b e) = _
        cases atoiV z0 <;> cases atoiV z1 <;> cases atoiV z2 <;> rfl)
      have HCW : Hid (∀ j, j < 4 → (X.alloc (.cells (Lib.cellsOf [z0, z1, z2, z3] N) 9)).cell? ⟨X.heap.size, j, none⟩ = some (.string (z j))) := Lib.hid (fun j hj => by
        refine heap_cell words_cells ?_
        rw [hz]
        rcases (show j = 0 ∨ j = 1 ∨ j = 2 ∨ j = 3 by omega) with rfl | rfl | rfl | rfl <;> simp [Lib.cellsOf])
      have HOKB : Hid (BookOk b) := Lib.hid HOK.out
      clear HSN hz hq hlen hl4 hmw hpre hr hd
      gi_wp2_with fail
      refine ⟨trivial, CallsIn.inRound _ (callsIn_wide.2 (HTS.out.mono ?_))⟩
      rintro e X' ⟨rfl, hX'⟩
      obtain rfl := hX'.symm
      gi_wp2_with fail
      refine ⟨trivial, CallsIn.inRound _ (callsIn_wide.2 (HSPL.out.mono ?_))⟩
      rintro e X1 ⟨rfl, hX1⟩
      have HB1 : Hid (Below X.heap.size X X1) := Lib.hid (by rw [hX1]; exact (Below.refl _ X).alloc (Nat.le_refl _) _)
      have HC1 : Hid (∀ j, j < 4 → X1.cell? ⟨X.heap.size, j, none⟩ = some (.string (z j))) := Lib.hid (by rw [hX1]; exact HCW.out)
      have hX1s : X1.heap.size = X.heap.size + 1 := by rw [hX1]; simp
      have HXS := Lib.hid hX1s
      clear hX1 HCW HSPL HTS hX1s
      have HA1 := Lib.hid (HAT.out.below HB1.out)
      simp only [List.length_cons, List.length_nil, Nat.reduceAdd]
      gi_wp2_with fail
      obtain ⟨X2, hX2⟩ : ∃ X2, X2 = X1.alloc (.cells #[.int .i64 0, .int .i64 0, .int .i64 0] 165) := ⟨_, rfl⟩
      have HN0 : Hid (NumI z q X1.heap.size X1 0 X2) := Lib.hid (by
        rw [hX2]
        exact ⟨World.alloc_heap_new X1 _, fun j hj => by omega, (Below.refl _ X1).alloc (Nat.le_refl _) _⟩)
      rw [← hX2]
      clear hX2
      gi_loopw [22] (fun i wr => ∃ k : Nat, k ≤ 3 ∧ i = .int .i64 k ∧ Hid (NumI z q X1.heap.size X1 k wr)) (fun i _ => 3 - (intOf i).toNat)
      case atStart => exact ⟨0, by omega, rfl, HN0⟩
      case round =>
        obtain ⟨k, hk, rfl, HI⟩ := hrel
        have HBW : Hid (Below X.heap.size X wr) := Lib.hid (HB1.out.trans (HI.out.below.mono (by have := HXS.out; omega)))
        have HAW := Lib.hid (HAT.out.below HBW.out)
        have hws2 : X1.heap.size < wr.heap.size := (Array.getElem?_eq_some_iff.1 HI.out.row).1
        by_cases hlt : k < 3
        · have cw : wr.cell? ⟨X.heap.size, k, none⟩ = some (.string (z k)) := keep_cell HI.out.below (HC1.out k (by omega))
          have HAI := Lib.hid (atoi_any (z k) wr (by have := HZS.out k (by omega); omega) (HVX.out.below HBW.out))
          cases hn : atoiV (z k) with
          | none =>
            unfold GivesN at HAI
            rw [hn] at HAI
            have hno : soFar (pre ++ [x]) = none := by
              rw [HSN2.out]
              rcases (show k = 0 ∨ k = 1 ∨ k = 2 by omega) with rfl | rfl | rfl <;> rw [hn] <;> first | rfl | (cases atoiV (z 0) <;> first | rfl | (cases atoiV (z 1) <;> rfl))
            have HNO := Lib.hid (soFar_bad PRE.out hno)
            clear hno hn
            gi_wp2_with fail
            refine ⟨trivial, CallsIn.inRound _ (callsIn_wide.2 (HAI.out.mono ?_))⟩
            rintro e w1 ⟨⟨m1, m2, rfl⟩, hb1⟩
            have HB2 := Lib.hid (HBW.out.trans (hb1.mono HBW.out.size))
            clear hb1
            have HA2 := Lib.hid (HAT.out.below HB2.out)
            have c2 : (w1).cell? ⟨w.heap.size, 0, none⟩ = some (.pointer none) := heap_cell (HA2.out).p rfl
            have c3 : (w1).cell? ⟨w.heap.size + 1, 0, none⟩ = some (.bool false) := heap_cell (HA2.out).ok rfl
            have f2 : (w1).frozen? ⟨w.heap.size, 0, none⟩ = false := by simp [World.frozen?, (HA2.out).p]
            have f3 : (w1).frozen? ⟨w.heap.size + 1, 0, none⟩ = false := by simp [World.frozen?, (HA2.out).ok]
            gi_wp2
            exact rd_leave hsz HA2.out (HBX.out.trans (HB2.out.mono HBX.out.size)) (fun k h1 _ _ => HB2.out.block k h1) hrl HNO.out
          | some n =>
            unfold GivesN at HAI
            rw [hn] at HAI
            have hqn := HQ.out k n hn
            have HN2 : Hid (∀ w1, Below wr.heap.size wr w1 → NumI z q X1.heap.size X1 (k + 1) (w1.setCell ⟨X1.heap.size, k, none⟩ (.int .i64 n))) := Lib.hid (fun w1 hb1 => by
              have h := HI.out.next hlt hb1 (by omega) (by rw [hn, hqn])
              rw [hqn] at h
              exact h)
            have dv := HI.out.cell hlt
            have fv := HI.out.frozen k
            clear hn hqn
            gi_wp2_with fail
            refine ⟨trivial, CallsIn.inRound _ (callsIn_wide.2 (HAI.out.mono ?_))⟩
            rintro e w1 ⟨rfl, hb1⟩
            have dv1 := keep_cell hb1 dv
            have fv1 : w1.frozen? ⟨X1.heap.size, k, none⟩ = false := by
              have := (hb1.block _ hws2).trans HI.out.row
              simp [World.frozen?, this]
            have HN3 := Lib.hid (HN2.out w1 hb1)
            clear hb1
            gi_wp2
            go_roundw
            case rel => exact ⟨k + 1, by omega, by go_num, HN3⟩
            case measure => simp [intOf]; omega
        · obtain rfl : k = 3 := by omega
          have HSN3 : Hid (soFar (pre ++ [x]) = addB b (q 0, q 1, q 2, z 3)) := Lib.hid (by
            rw [HSN2.out, HI.out.got 0 (by omega), HI.out.got 1 (by omega), HI.out.got 2 (by omega)])
          have hS : SxW w.heap.size X.heap.size X1.heap.size q (z 3) wr := by
            refine ⟨heap_cell HAW.out.v rfl, ?_, ?_, ?_, keep_cell HI.out.below (HC1.out 3 (by omega))⟩
            · exact HI.out.cell (j := 0) (by omega)
            · exact HI.out.cell (j := 1) (by omega)
            · exact HI.out.cell (j := 2) (by omega)
          have r0 : ∀ W, SxW w.heap.size X.heap.size X1.heap.size q (z 3) W → W.cell? ⟨w.heap.size + 3, 0, none⟩ = some (.pointer (some ⟨w.heap.size + 2, 0, none⟩)) := fun W h => h.1
          have r1 : ∀ W, SxW w.heap.size X.heap.size X1.heap.size q (z 3) W → W.cell? ⟨X1.heap.size, 0, none⟩ = some (.int .i64 (q 0)) := fun W h => h.2.1
          have r2 : ∀ W, SxW w.heap.size X.heap.size X1.heap.size q (z 3) W → W.cell? ⟨X1.heap.size, 1, none⟩ = some (.int .i64 (q 1)) := fun W h => h.2.2.1
          have r3 : ∀ W, SxW w.heap.size X.heap.size X1.heap.size q (z 3) W → W.cell? ⟨X1.heap.size, 2, none⟩ = some (.int .i64 (q 2)) := fun W h => h.2.2.2.1
          have r4 : ∀ W, SxW w.heap.size X.heap.size X1.heap.size q (z 3) W → W.cell? ⟨X.heap.size, 3, none⟩ = some (.string (z 3)) := fun W h => h.2.2.2.2
          have hHeld : SxW w.heap.size X.heap.size X1.heap.size q (z 3) wr.drew := hS.kept rfl rfl rfl
          have HSX := Lib.hid hHeld
          have HAD : Hid (RdAt w.heap.size vs b wr.drew) := Lib.hid (HAW.out.keep fun _ _ _ => rfl)
          have HADD := Lib.hid (addB_any (w.heap.size + 2) vs b (q 0, q 1, q 2, z 3) wr.drew HAD.out.bk HOKB.out)
          have HBD : Hid (Below w.heap.size w wr.drew) := Lib.hid ((HBX.out.trans (HBW.out.mono HBX.out.size)).drew)
          have HBWD : Hid (Below X.heap.size X wr.drew) := Lib.hid HBW.out.drew
          have hwd : X1.heap.size < wr.drew.heap.size := hws2
          clear hS
          by_cases hf : follows b (q 0, q 1, q 2, z 3) = true
          · rw [if_pos hf] at HADD
            have HNX : Hid (soFar (pre ++ [x]) = some (addAt b (q 0).toNat (q 0, q 1, q 2, z 3))) := Lib.hid (by rw [HSN3.out]; unfold addB; rw [if_pos hf]; rfl)
            have HP4 : Hid ((q 0).toNat < 4) := Lib.hid (by
              rw [follows_iff] at hf
              have h1 := hf.1
              have h2 := hf.2.1
              simp only [ePost] at h1 h2
              omega)
            clear hf
            gi_wp2
            refine region_round (SxW w.heap.size X.heap.size X1.heap.size q (z 3)) (by kernel_rfl) (by kernel_rfl) (fun _ _ h => h) ?_
            refine wpAnyH_take (i := 0) (v := (.pointer (some ⟨w.heap.size + 2, 0, none⟩))) rfl (by kernel_rfl) (by kernel_rfl) (by kernel_rfl) (fun _ _ _ h => h) (Or.inl ⟨by rfl, fun W3 hS3 => ?take⟩) hHeld ?_
            case take => go_simp
            try simp only [Act.put, List.getElem_toArray, List.getElem_cons_zero, List.getElem_cons_succ, List.setIfInBounds_toArray, List.set_cons_zero, List.set_cons_succ]
            refine wpAnyH_take (i := 1) (v := (.pointer (some ⟨X1.heap.size, 0, none⟩))) rfl (by kernel_rfl) (by kernel_rfl) (by kernel_rfl) (fun _ _ _ h => h) (Or.inl ⟨by rfl, fun W3 hS3 => ?take⟩) hHeld ?_
            case take => go_simp
            try simp only [Act.put, List.getElem_toArray, List.getElem_cons_zero, List.getElem_cons_succ, List.setIfInBounds_toArray, List.set_cons_zero, List.set_cons_succ]
            refine wpAnyH_take (i := 2) (v := (.int .i64 (q 0))) rfl (by kernel_rfl) (by kernel_rfl) (by kernel_rfl) (fun _ _ _ h => h) (Or.inl ⟨by rfl, fun W3 hS3 => ?take⟩) hHeld ?_
            case take => go_simp
            try simp only [Act.put, List.getElem_toArray, List.getElem_cons_zero, List.getElem_cons_succ, List.setIfInBounds_toArray, List.set_cons_zero, List.set_cons_succ]
            refine wpAnyH_take (i := 3) (v := (.pointer (some ⟨X1.heap.size, 1, none⟩))) rfl (by kernel_rfl) (by kernel_rfl) (by kernel_rfl) (fun _ _ _ h => h) (Or.inl ⟨by rfl, fun W3 hS3 => ?take⟩) hHeld ?_
            case take => go_simp
            try simp only [Act.put, List.getElem_toArray, List.getElem_cons_zero, List.getElem_cons_succ, List.setIfInBounds_toArray, List.set_cons_zero, List.set_cons_succ]
            refine wpAnyH_take (i := 4) (v := (.int .i64 (q 1))) rfl (by kernel_rfl) (by kernel_rfl) (by kernel_rfl) (fun _ _ _ h => h) (Or.inl ⟨by rfl, fun W3 hS3 => ?take⟩) hHeld ?_
            case take => go_simp
            try simp only [Act.put, List.getElem_toArray, List.getElem_cons_zero, List.getElem_cons_succ, List.setIfInBounds_toArray, List.set_cons_zero, List.set_cons_succ]
            refine wpAnyH_take (i := 5) (v := (.pointer (some ⟨X1.heap.size, 2, none⟩))) rfl (by kernel_rfl) (by kernel_rfl) (by kernel_rfl) (fun _ _ _ h => h) (Or.inl ⟨by rfl, fun W3 hS3 => ?take⟩) hHeld ?_
            case take => go_simp
            try simp only [Act.put, List.getElem_toArray, List.getElem_cons_zero, List.getElem_cons_succ, List.setIfInBounds_toArray, List.set_cons_zero, List.set_cons_succ]
            refine wpAnyH_take (i := 6) (v := (.int .i64 (q 2))) rfl (by kernel_rfl) (by kernel_rfl) (by kernel_rfl) (fun _ _ _ h => h) (Or.inl ⟨by rfl, fun W3 hS3 => ?take⟩) hHeld ?_
            case take => go_simp
            try simp only [Act.put, List.getElem_toArray, List.getElem_cons_zero, List.getElem_cons_succ, List.setIfInBounds_toArray, List.set_cons_zero, List.set_cons_succ]
            refine wpAnyH_take (i := 7) (v := (.slice (some ⟨X.heap.size, 0, none⟩) 4 N)) rfl (by kernel_rfl) (by kernel_rfl) (by kernel_rfl) (fun _ _ _ h => h) (Or.inl ⟨by rfl, fun W3 hS3 => ?take⟩) hHeld ?_
            case take => go_simp
            try simp only [Act.put, List.getElem_toArray, List.getElem_cons_zero, List.getElem_cons_succ, List.setIfInBounds_toArray, List.set_cons_zero, List.set_cons_succ]
            refine wpAnyH_take (i := 8) (v := (.pointer (some ⟨X.heap.size, 3, none⟩))) rfl (by kernel_rfl) (by kernel_rfl) (by kernel_rfl) (fun _ _ _ h => h) (Or.inl ⟨by rfl, fun W3 hS3 => ?take⟩) hHeld ?_
            case take => go_simp
            try simp only [Act.put, List.getElem_toArray, List.getElem_cons_zero, List.getElem_cons_succ, List.setIfInBounds_toArray, List.set_cons_zero, List.set_cons_succ]
            refine wpAnyH_take (i := 9) (v := (.string (z 3))) rfl (by kernel_rfl) (by kernel_rfl) (by kernel_rfl) (fun _ _ _ h => h) (Or.inl ⟨by rfl, fun W3 hS3 => ?take⟩) hHeld ?_
            case take => go_simp
            try simp only [Act.put, List.getElem_toArray, List.getElem_cons_zero, List.getElem_cons_succ, List.setIfInBounds_toArray, List.set_cons_zero, List.set_cons_succ]
            refine wpAnyH_take (i := 10) (v := (.agg #[.int .i64 (q 0), .int .i64 (q 1), .int .i64 (q 2), .string (z 3)])) rfl (by kernel_rfl) (by kernel_rfl) (by kernel_rfl) (fun _ _ _ h => h) (Or.inl ⟨by rfl, fun W3 hS3 => ?take⟩) hHeld ?_
            case take => go_simp
            try simp only [Act.put, List.getElem_toArray, List.getElem_cons_zero, List.getElem_cons_succ, List.setIfInBounds_toArray, List.set_cons_zero, List.set_cons_succ]
            refine wpAnyH_ready (rs := [11]) (by kernel_rfl) (by simp) ?_
            refine AllReadyH.cons rfl (fun K hK => ?_) AllReadyH.nil
            go_simp
            refine HADD.out.mono ?_
            rintro e w2 ⟨rfl, v', hA⟩
            have hne : ∀ k, w.heap.size + 2 ≠ k → (∀ g, (vs (q 0).toNat).ownBlock = some g → g ≠ k) → k < wr.drew.heap.size → w2.heap[k]? = wr.drew.heap[k]? := fun k h1 h2 h3 => hA.block k h3 (fun e => h1 e.symm) (fun e => h2 k e rfl)
            have hfar : ∀ g, (vs (q 0).toNat).ownBlock = some g → w.heap.size + 7 ≤ g := fun g hg => HAD.out.far _ HP4.out g hg
            have hlow : ∀ g, (vs (q 0).toNat).ownBlock = some g → g < X.heap.size := fun g hg => (HAT.out.bk.list _ HP4.out).lt hg
            have hXS := HXS.out
            have HSX2 := Lib.hid (HSX.out.kept (hne (w.heap.size + 3) (by omega) (fun g hg => by have := hfar g hg; omega) (by omega)) (hne X1.heap.size (by omega) (fun g hg => by have := hlow g hg; omega) (by omega)) (hne X.heap.size (by omega) (fun g hg => by have := hlow g hg; omega) (by omega)))
            have HA2 : Hid (RdAt w.heap.size (setVs vs (q 0).toNat v') (addAt b (q 0).toNat (q 0, q 1, q 2, z 3)) w2) := Lib.hid (HAD.out.added HP4.out (by omega) hA)
            have HB2 : Hid (Below w.heap.size w w2) := Lib.hid (added_below HAD.out HP4.out HBD.out (by omega) hA)
            have HK2 : Hid (∀ k, w.heap.size + 4 ≤ k → k < w.heap.size + 7 → w2.heap[k]? = X.heap[k]?) := Lib.hid (fun k h1 h2 => (hne k (by omega) (fun g hg => by have := hfar g hg; omega) (by omega)).trans (HBWD.out.block k (by omega)))
            clear hne hfar hlow hA hXS
            dsimp only
            refine hK.out _ _ HSX2.out (fun hHeld => ?_)
            clear hK K
            try simp only [Act.put, List.setIfInBounds_toArray, List.set_cons_zero, List.set_cons_succ]
            refine wpAnyH_take (i := 12) (v := (.bool false)) rfl (by kernel_rfl) (by kernel_rfl) (by kernel_rfl) (fun _ _ _ h => h) (Or.inl ⟨by rfl, fun W3 hS3 => ?take⟩) hHeld ?_
            case take => go_simp
            try simp only [Act.put, List.getElem_toArray, List.getElem_cons_zero, List.getElem_cons_succ, List.setIfInBounds_toArray, List.set_cons_zero, List.set_cons_succ]
            refine wpAnyH_done (by kernel_rfl) ?_ _
            simp only [Exit.then]
            clear r0 r1 r2 r3 r4 hHeld
            gi_wp2
            refine ⟨fun k hk => HK2.out k ?_ ?_, _, _, HNX.out, HA2.out, HB2.out⟩
            · rcases hk with h | h | h
              · omega
              · omega
              · have : k = w.heap.size + 4 := h
                omega
            · rcases hk with h | h | h
              · omega
              · omega
              · have : k = w.heap.size + 4 := h
                omega
          · rw [if_neg hf] at HADD
            have hno : soFar (pre ++ [x]) = none := by rw [HSN3.out]; unfold addB; rw [if_neg hf]
            have HNO := Lib.hid (soFar_bad PRE.out hno)
            clear hf hno
            gi_wp2
            refine region_round (SxW w.heap.size X.heap.size X1.heap.size q (z 3)) (by kernel_rfl) (by kernel_rfl) (fun _ _ h => h) ?_
            refine wpAnyH_take (i := 0) (v := (.pointer (some ⟨w.heap.size + 2, 0, none⟩))) rfl (by kernel_rfl) (by kernel_rfl) (by kernel_rfl) (fun _ _ _ h => h) (Or.inl ⟨by rfl, fun W3 hS3 => ?take⟩) hHeld ?_
            case take => go_simp
            try simp only [Act.put, List.getElem_toArray, List.getElem_cons_zero, List.getElem_cons_succ, List.setIfInBounds_toArray, List.set_cons_zero, List.set_cons_succ]
            refine wpAnyH_take (i := 1) (v := (.pointer (some ⟨X1.heap.size, 0, none⟩))) rfl (by kernel_rfl) (by kernel_rfl) (by kernel_rfl) (fun _ _ _ h => h) (Or.inl ⟨by rfl, fun W3 hS3 => ?take⟩) hHeld ?_
            case take => go_simp
            try simp only [Act.put, List.getElem_toArray, List.getElem_cons_zero, List.getElem_cons_succ, List.setIfInBounds_toArray, List.set_cons_zero, List.set_cons_succ]
            refine wpAnyH_take (i := 2) (v := (.int .i64 (q 0))) rfl (by kernel_rfl) (by kernel_rfl) (by kernel_rfl) (fun _ _ _ h => h) (Or.inl ⟨by rfl, fun W3 hS3 => ?take⟩) hHeld ?_
            case take => go_simp
            try simp only [Act.put, List.getElem_toArray, List.getElem_cons_zero, List.getElem_cons_succ, List.setIfInBounds_toArray, List.set_cons_zero, List.set_cons_succ]
            refine wpAnyH_take (i := 3) (v := (.pointer (some ⟨X1.heap.size, 1, none⟩))) rfl (by kernel_rfl) (by kernel_rfl) (by kernel_rfl) (fun _ _ _ h => h) (Or.inl ⟨by rfl, fun W3 hS3 => ?take⟩) hHeld ?_
            case take => go_simp
            try simp only [Act.put, List.getElem_toArray, List.getElem_cons_zero, List.getElem_cons_succ, List.setIfInBounds_toArray, List.set_cons_zero, List.set_cons_succ]
            refine wpAnyH_take (i := 4) (v := (.int .i64 (q 1))) rfl (by kernel_rfl) (by kernel_rfl) (by kernel_rfl) (fun _ _ _ h => h) (Or.inl ⟨by rfl, fun W3 hS3 => ?take⟩) hHeld ?_
            case take => go_simp
            try simp only [Act.put, List.getElem_toArray, List.getElem_cons_zero, List.getElem_cons_succ, List.setIfInBounds_toArray, List.set_cons_zero, List.set_cons_succ]
            refine wpAnyH_take (i := 5) (v := (.pointer (some ⟨X1.heap.size, 2, none⟩))) rfl (by kernel_rfl) (by kernel_rfl) (by kernel_rfl) (fun _ _ _ h => h) (Or.inl ⟨by rfl, fun W3 hS3 => ?take⟩) hHeld ?_
            case take => go_simp
            try simp only [Act.put, List.getElem_toArray, List.getElem_cons_zero, List.getElem_cons_succ, List.setIfInBounds_toArray, List.set_cons_zero, List.set_cons_succ]
            refine wpAnyH_take (i := 6) (v := (.int .i64 (q 2))) rfl (by kernel_rfl) (by kernel_rfl) (by kernel_rfl) (fun _ _ _ h => h) (Or.inl ⟨by rfl, fun W3 hS3 => ?take⟩) hHeld ?_
            case take => go_simp
            try simp only [Act.put, List.getElem_toArray, List.getElem_cons_zero, List.getElem_cons_succ, List.setIfInBounds_toArray, List.set_cons_zero, List.set_cons_succ]
            refine wpAnyH_take (i := 7) (v := (.slice (some ⟨X.heap.size, 0, none⟩) 4 N)) rfl (by kernel_rfl) (by kernel_rfl) (by kernel_rfl) (fun _ _ _ h => h) (Or.inl ⟨by rfl, fun W3 hS3 => ?take⟩) hHeld ?_
            case take => go_simp
            try simp only [Act.put, List.getElem_toArray, List.getElem_cons_zero, List.getElem_cons_succ, List.setIfInBounds_toArray, List.set_cons_zero, List.set_cons_succ]
            refine wpAnyH_take (i := 8) (v := (.pointer (some ⟨X.heap.size, 3, none⟩))) rfl (by kernel_rfl) (by kernel_rfl) (by kernel_rfl) (fun _ _ _ h => h) (Or.inl ⟨by rfl, fun W3 hS3 => ?take⟩) hHeld ?_
            case take => go_simp
            try simp only [Act.put, List.getElem_toArray, List.getElem_cons_zero, List.getElem_cons_succ, List.setIfInBounds_toArray, List.set_cons_zero, List.set_cons_succ]
            refine wpAnyH_take (i := 9) (v := (.string (z 3))) rfl (by kernel_rfl) (by kernel_rfl) (by kernel_rfl) (fun _ _ _ h => h) (Or.inl ⟨by rfl, fun W3 hS3 => ?take⟩) hHeld ?_
            case take => go_simp
            try simp only [Act.put, List.getElem_toArray, List.getElem_cons_zero, List.getElem_cons_succ, List.setIfInBounds_toArray, List.set_cons_zero, List.set_cons_succ]
            refine wpAnyH_take (i := 10) (v := (.agg #[.int .i64 (q 0), .int .i64 (q 1), .int .i64 (q 2), .string (z 3)])) rfl (by kernel_rfl) (by kernel_rfl) (by kernel_rfl) (fun _ _ _ h => h) (Or.inl ⟨by rfl, fun W3 hS3 => ?take⟩) hHeld ?_
            case take => go_simp
            try simp only [Act.put, List.getElem_toArray, List.getElem_cons_zero, List.getElem_cons_succ, List.setIfInBounds_toArray, List.set_cons_zero, List.set_cons_succ]
            refine wpAnyH_ready (rs := [11]) (by kernel_rfl) (by simp) ?_
            refine AllReadyH.cons rfl (fun K hK => ?_) AllReadyH.nil
            go_simp
            refine HADD.out.mono ?_
            rintro e w2 ⟨rfl, hb2⟩
            have hlt2 : ∀ {k v j}, wr.drew.cell? ⟨k, j, none⟩ = some v → k < wr.drew.heap.size := fun {k v j} h => by
              rcases Nat.lt_or_ge k wr.drew.heap.size with h9 | h9
              · exact h9
              · unfold World.cell? at h
                rw [show wr.drew.heap[(⟨k, j, none⟩ : Addr).block]? = none from Array.getElem?_eq_none h9] at h
                cases h
            have HSX2 := Lib.hid (HSX.out.kept (hb2.block _ (hlt2 HSX.out.1)) (hb2.block _ (hlt2 HSX.out.2.1)) (hb2.block _ (hlt2 HSX.out.2.2.2.2)))
            have HA2 := Lib.hid (HAD.out.below hb2)
            have HB2 := Lib.hid (HBWD.out.trans (hb2.mono (by have := HBW.out.size; exact this)))
            clear hb2 hlt2
            dsimp only
            refine hK.out _ _ HSX2.out (fun hHeld => ?_)
            clear hK K
            try simp only [Act.put, List.setIfInBounds_toArray, List.set_cons_zero, List.set_cons_succ]
            refine wpAnyH_take (i := 12) (v := (.bool true)) rfl (by kernel_rfl) (by kernel_rfl) (by kernel_rfl) (fun _ _ _ h => h) (Or.inl ⟨by rfl, fun W3 hS3 => ?take⟩) hHeld ?_
            case take => go_simp
            try simp only [Act.put, List.getElem_toArray, List.getElem_cons_zero, List.getElem_cons_succ, List.setIfInBounds_toArray, List.set_cons_zero, List.set_cons_succ]
            refine wpAnyH_done (by kernel_rfl) ?_ _
            simp only [Exit.then]
            clear r0 r1 r2 r3 r4 hHeld
            have c2 : (w2).cell? ⟨w.heap.size, 0, none⟩ = some (.pointer none) := heap_cell (HA2.out).p rfl
            have c3 : (w2).cell? ⟨w.heap.size + 1, 0, none⟩ = some (.bool false) := heap_cell (HA2.out).ok rfl
            have f2 : (w2).frozen? ⟨w.heap.size, 0, none⟩ = false := by simp [World.frozen?, (HA2.out).p]
            have f3 : (w2).frozen? ⟨w.heap.size + 1, 0, none⟩ = false := by simp [World.frozen?, (HA2.out).ok]
            gi_wp2
            exact rd_leave hsz HA2.out (HBX.out.trans (HB2.out.mono HBX.out.size)) (fun k h1 _ _ => HB2.out.block k h1) hrl HNO.out
  case done =>
    intro W hi hd
    rw [hsz] at hd
    obtain ⟨vs, b, hsf, hat, hbW⟩ := hi
    have hok := readL_ok _ empB_ok hsf
    have HRL := Lib.hid (soFar_all hsf)
    have HD := Lib.hid hd
    have HBW := Lib.hid hbW
    have HAT := Lib.hid hat
    have HV2 := Lib.hid (hV.below hbW)
    have hv := heap_cell (j := 0) hat.v rfl
    clear hd hTI hrd hln hbW hat
    have r0 : ∀ W, SyW w.heap.size W → W.cell? ⟨w.heap.size + 3, 0, none⟩ = some (.pointer (some ⟨w.heap.size + 2, 0, none⟩)) := fun W h => h
    have hS : SyW w.heap.size W.drew := hv
    have HSY := Lib.hid hS
    have HAD : Hid (RdAt w.heap.size vs b W.drew) := Lib.hid (HAT.out.keep fun _ _ _ => rfl)
    have HTX := Lib.hid (text_any (w.heap.size + 2) _ b W.drew HAD.out.bk.at hok (HV2.out.below (Below.refl _ W).drew))
    gi_wp2_with fail
    refine wpIn_wide.2 ?_
    refine wp_region_noPanic ?_
    refine wp_region_held_drew (S := SyW w.heap.size) (by kernel_rfl) hS (fun hHeld => ?_)
    refine wpAnyH_take (i := 0) (v := (.pointer (some ⟨w.heap.size + 2, 0, none⟩))) rfl (by kernel_rfl) (by kernel_rfl) (by kernel_rfl) (fun _ _ _ h => h) (Or.inl ⟨by rfl, fun W3 hS3 => ?take⟩) hHeld ?_
    case take => go_simp
    try simp only [Act.put, List.getElem_toArray, List.getElem_cons_zero, List.getElem_cons_succ, List.setIfInBounds_toArray, List.set_cons_zero, List.set_cons_succ]
    refine wpAnyH_take (i := 1) (v := (.pointer (some ⟨w.heap.size + 2, 0, none⟩))) rfl (by kernel_rfl) (by kernel_rfl) (by kernel_rfl) (fun _ _ _ h => h) (Or.inl ⟨by rfl, fun W3 hS3 => ?take⟩) hHeld ?_
    case take => go_simp
    try simp only [Act.put, List.getElem_toArray, List.getElem_cons_zero, List.getElem_cons_succ, List.setIfInBounds_toArray, List.set_cons_zero, List.set_cons_succ]
    refine wpAnyH_take (i := 3) (v := (.string s)) rfl (by kernel_rfl) (by kernel_rfl) (by kernel_rfl) (fun _ _ _ h => h) (Or.inl ⟨by rfl, fun W3 hS3 => ?take⟩) hHeld ?_
    case take => go_simp
    try simp only [Act.put, List.getElem_toArray, List.getElem_cons_zero, List.getElem_cons_succ, List.setIfInBounds_toArray, List.set_cons_zero, List.set_cons_succ]
    refine wpAnyH_ready (rs := [2]) (by kernel_rfl) (by simp) ?_
    refine AllReadyH.cons rfl (fun K hK => ?_) AllReadyH.nil
    go_simp
    refine HTX.out.mono ?_
    rintro e w2 ⟨rfl, hb2⟩
    have HSY2 : Hid (SyW w.heap.size w2) := Lib.hid (keep_cell hb2 HSY.out)
    have HA2 := Lib.hid (HAD.out.below hb2)
    have HB2 : Hid (Below w.heap.size w w2) := Lib.hid ((HBW.out.drew).trans (hb2.mono (by have := HBW.out.size; exact this)))
    have HD2 : Hid (w2.heap[w.heap.size + 5]? = some (.deferred (some []))) := Lib.hid ((hb2.block _ (Array.getElem?_eq_some_iff.1 HD.out).1).trans HD.out)
    clear hb2
    have c2 : (w2).cell? ⟨w.heap.size, 0, none⟩ = some (.pointer none) := heap_cell (HA2.out).p rfl
    have c3 : (w2).cell? ⟨w.heap.size + 1, 0, none⟩ = some (.bool false) := heap_cell (HA2.out).ok rfl
    have f2 : (w2).frozen? ⟨w.heap.size, 0, none⟩ = false := by simp [World.frozen?, (HA2.out).p]
    have f3 : (w2).frozen? ⟨w.heap.size + 1, 0, none⟩ = false := by simp [World.frozen?, (HA2.out).ok]
    have f4 : (w2.setCell ⟨w.heap.size, 0, none⟩ (.pointer (some ⟨w.heap.size + 2, 0, none⟩))).frozen? ⟨w.heap.size + 1, 0, none⟩ = false := by
      have := (set_other (X := w2) (v := .pointer (some ⟨w.heap.size + 2, 0, none⟩)) (show w.heap.size + 1 ≠ w.heap.size by omega)).trans HA2.out.ok
      simp [World.frozen?, this]
    have c4 : (w2.setCell ⟨w.heap.size, 0, none⟩ (.pointer (some ⟨w.heap.size + 2, 0, none⟩))).cell? ⟨w.heap.size + 1, 0, none⟩ = some (.bool false) :=
      heap_cell ((set_other (X := w2) (v := .pointer (some ⟨w.heap.size + 2, 0, none⟩)) (show w.heap.size + 1 ≠ w.heap.size by omega)).trans HA2.out.ok) rfl
    dsimp only
    refine hK.out _ _ HSY2.out (fun hHeld => ?_)
    clear hK K
    try simp only [Act.put, List.setIfInBounds_toArray, List.set_cons_zero, List.set_cons_succ]
    refine wpAnyH_take (i := 4) (v := .bool (decide (textB b = s))) rfl (by kernel_rfl) (by kernel_rfl) (by kernel_rfl) (fun _ _ _ h => h) (Or.inl ⟨by rfl, fun W3 hS3 => ?take⟩) hHeld ?_
    case take =>
      go_simp
      rw [ba_beq]
    try simp only [Act.put, List.getElem_toArray, List.getElem_cons_zero, List.getElem_cons_succ, List.setIfInBounds_toArray, List.set_cons_zero, List.set_cons_succ]
    have HRB : Hid (readB s = if textB b = s then some b else none) := Lib.hid (by unfold readB; rw [HRL.out])
    have hn1 : SyW w.heap.size (w2.setCell ⟨w.heap.size, 0, none⟩ (.pointer (some ⟨w.heap.size + 2, 0, none⟩))) := by
      have h9 := (set_other (X := w2) (v := .pointer (some ⟨w.heap.size + 2, 0, none⟩)) (show w.heap.size + 3 ≠ w.heap.size by omega)).trans HA2.out.v
      exact heap_cell h9 rfl
    have hn2 : SyW w.heap.size ((w2.setCell ⟨w.heap.size, 0, none⟩ (.pointer (some ⟨w.heap.size + 2, 0, none⟩))).setCell ⟨w.heap.size + 1, 0, none⟩ (.bool (decide (textB b = s)))) := by
      have h9 := (set_other (X := w2.setCell ⟨w.heap.size, 0, none⟩ (.pointer (some ⟨w.heap.size + 2, 0, none⟩))) (v := .bool (decide (textB b = s))) (show w.heap.size + 3 ≠ w.heap.size + 1 by omega)).trans ((set_other (X := w2) (v := .pointer (some ⟨w.heap.size + 2, 0, none⟩)) (show w.heap.size + 3 ≠ w.heap.size by omega)).trans HA2.out.v)
      exact heap_cell h9 rfl
    have HS1 := Lib.hid hn1
    have HS2 := Lib.hid hn2
    clear hn1 hn2
    refine wpAnyH_ready (rs := [5]) (by kernel_rfl) (by simp) ?_
    refine AllReadyH.cons rfl (fun K hK => ?_) AllReadyH.nil
    go_simp
    refine hK.out _ _ HS1.out (fun hHeld => ?_)
    clear hK K
    try simp only [Act.put, List.setIfInBounds_toArray, List.set_cons_zero, List.set_cons_succ]
    refine wpAnyH_ready (rs := [6]) (by kernel_rfl) (by simp) ?_
    refine AllReadyH.cons rfl (fun K hK => ?_) AllReadyH.nil
    go_simp
    refine hK.out _ _ HS2.out (fun hHeld => ?_)
    clear hK K
    try simp only [Act.put, List.setIfInBounds_toArray, List.set_cons_zero, List.set_cons_succ]
    refine wpAnyH_done (by kernel_rfl) ?_ _
    refine NoPanic.normal ?_
    simp only [Exit.then]
    clear hHeld c2 c3 c4 f2 f3 f4 r0 hS hv
    gi_wp2
    obtain ⟨W5, hW5⟩ : ∃ W5, W5 = ((w2.setCell ⟨w.heap.size, 0, none⟩ (.pointer (some ⟨w.heap.size + 2, 0, none⟩))).setCell ⟨w.heap.size + 1, 0, none⟩ (.bool (decide (textB b = s)))) := ⟨_, rfl⟩
    have hoth : ∀ k, k ≠ w.heap.size → k ≠ w.heap.size + 1 → W5.heap[k]? = w2.heap[k]? := fun k h1 h2 => by
      rw [hW5]; exact (set_other h2).trans (set_other h1)
    have hp : W5.heap[w.heap.size]? = some (.cells #[.pointer (some ⟨w.heap.size + 2, 0, none⟩)] 79 (0, 0)) := by
      rw [hW5]; exact (set_other (by omega)).trans (box_set HA2.out.p)
    have hk : W5.heap[w.heap.size + 1]? = some (.cells #[.bool (decide (textB b = s))] 4 (0, 0)) := by
      rw [hW5]; exact box_set ((set_other (by omega)).trans HA2.out.ok)
    have hB5 : Below w.heap.size w W5 := by
      rw [hW5]; exact (HB2.out.setCell (p := ⟨w.heap.size, 0, none⟩) (Nat.le_refl _) _).setCell (p := ⟨w.heap.size + 1, 0, none⟩) (by show w.heap.size ≤ w.heap.size + 1; omega) _
    rw [← hW5]
    have ht := turned_putObj (S := fun k => k = w.heap.size + 5) W5 (w.heap.size + 5) (.deferred none) rfl
    refine rd_ret ?t2 ?t3 hp hk ((hoth _ (by omega) (by omega)).trans HD2.out) rfl ⟨?rp, hB5.trans (ht.below fun k hk => by omega)⟩
    case t2 => rfl
    case t3 => rfl
    rw [HRB.out]
    by_cases he : textB b = s
    · rw [if_pos he]
      refine ⟨_, vs, by rw [decide_eq_true he], by omega, HA2.out.bk.keep ?_ ?_, fun i hi g hg => by have := HA2.out.far i hi g hg; omega⟩
      · exact (ht.block _ (fun h => by omega)).trans (hoth _ (by omega) (by omega))
      · intro i hi g hg
        have := HA2.out.far i hi g hg
        exact (ht.block _ (fun h => by omega)).trans (hoth _ (by omega) (by omega))
    · rw [if_neg he]
      exact ⟨_, by rw [decide_eq_false he]⟩
  case stop =>
    intro c pre W hpre hx hd
    rw [hsz] at hd
    obtain ⟨rfl, hno, h1, h2, h3⟩ := hx
    gi_wp2
    have ht := turned_putObj (S := fun k => k = w.heap.size + 5) W (w.heap.size + 5) (.deferred none) rfl
    exact rd_ret rfl rfl h1 h2 hd hsz ⟨by rw [hno]; exact ⟨_, rfl⟩, h3.trans (ht.below fun k hk => by omega)⟩
/-- read. -/
theorem read_any (s : ByteArray) (w : World) (hV : Vars w) (hs : s.size ≤ 4000000000) : Calls Tryz.prog 66 #[.string s] w (ReadPost s w) := callsIn_wide.1 (read_in s w hV hs)
end Go.Proofs.YtdfkaijeppdhaaaGreatDoor

/- Contract: Hear. -/
namespace Go.Proofs.YtdfkaijeppdhaaaGreatDoor
open Go.RowKit Go.Shelf
/-- Hear: the error, and the book. -/
def hearV (b : Book) (s : ByteArray) : Int × Book := match readB s with
  | some c => joinV b c
  | none => (3, b)
theorem hearV_ok {b : Book} (hb : BookOk b) (s : ByteArray) : BookOk (hearV b s).2 := by
  unfold hearV
  cases h : readB s with
  | none => exact hb
  | some c => exact joinV_ok hb (readB_some h).1
theorem TurnPost.ahead {w0 w : World} {P n : Nat} {F : List Nat} {r : Int × Book} (hb : Below w0.heap.size w0 w) {e : Ending} {w' : World} (h : TurnPost P n F r w e w') : TurnPost P n F r w0 e w' := by
  obtain ⟨he, F', h1, h2, h3⟩ := h
  exact ⟨he, F', h1, fun k hk => (h2 k hk).imp id (fun h => Nat.le_trans hb.size h), ⟨h3.os.trans hb.os, h3.tape.trans hb.tape, h3.output.trans hb.output, Nat.le_trans hb.size h3.size, fun k hk hn => (h3.block k (Nat.lt_of_lt_of_le hk hb.size) hn).trans (hb.block k hk)⟩⟩
set_option maxHeartbeats 1000000 in
theorem hear_post (P n : Nat) (F : List Nat) (b : Book) (s : ByteArray) (hs : s.size ≤ 4000000000) (w : World) (h : PostAt w P F n b) (hok : BookOk b) (hV : Vars w) :
    Calls Tryz.prog 44 #[.pointer (some ⟨P, 0, none⟩), .string s] w (TurnPost P n F (hearV b s) w) := by
  obtain ⟨K, vs, hP, hvs, hF⟩ := h.parts
  have HN := Lib.hid (none_any P K n _ w hP)
  have HR := Lib.hid (read_any s w hV hs)
  have HP := Lib.hid h
  have HOK := Lib.hid hok
  clear h hP hvs hF hok hV
  unfold ReadPost at HR
  unfold hearV
  cases hr : readB s with
  | none =>
    rw [hr] at HR
    simp only at HR
    clear hr
    go_enter Tryz.func44, Tryz.ntmps44
    go_wp2_with fail
    refine HN.out.mono ?_
    rintro e w' ⟨rfl, rfl⟩
    go_wp2_with fail
    refine HR.out.mono ?_
    rintro e w1 ⟨⟨pv, rfl⟩, hb⟩
    go_wp2
    go_ret
    exact ⟨rfl, F, HP.out.below hb, newOr_refl _ _, Off.of_below hb⟩
  | some c =>
    have HC := Lib.hid (readB_some hr).1
    rw [hr] at HR
    simp only at HR
    clear hr
    go_enter Tryz.func44, Tryz.ntmps44
    go_wp2_with fail
    refine HN.out.mono ?_
    rintro e w' ⟨rfl, rfl⟩
    go_wp2_with fail
    refine HR.out.mono ?_
    rintro e w1 ⟨⟨K2, vs2, rfl, _, hbk, _⟩, hb⟩
    have HT := Lib.hid (take_any P n F b K2 vs2 c w1 (HP.out.below hb) hbk HOK.out HC.out)
    have HB := Lib.hid hb
    clear hbk hb
    go_wp2_with fail
    refine HT.out.mono ?_
    rintro e w2 h
    have HH := Lib.hid (TurnPost.ahead HB.out h)
    obtain ⟨rfl, _⟩ := h
    go_wp2
    go_ret
    exact HH.out
end Go.Proofs.YtdfkaijeppdhaaaGreatDoor

/- How lists of numbers, and lists of such lists, lie in memory: plain predicates on worlds, and that they stay when only new memory is made. -/
namespace Go.Proofs.YtdfkaijeppdhaaaGreatDoor.Td
open Go.RowKit
/-- A slice value that reads as a list of ints. -/
def IntsAt (w : World) (v : Value) (l : List Int) : Prop :=
  ∃ (a : Option Addr) (cap : Nat), v = .slice a l.length cap ∧ l.length ≤ 9223372036854775807 ∧
    (0 < l.length → ∃ b off, a = some ⟨b, off, none⟩ ∧ ∀ j, j < l.length → w.cell? ⟨b, off + j, none⟩ = some (.int .i64 (l.getD j 0)))

/-- A slice value that reads as a list of lists of ints. -/
def RowsAt (w : World) (v : Value) (t : List (List Int)) : Prop :=
  ∃ (a : Option Addr) (cap : Nat), v = .slice a t.length cap ∧ t.length ≤ 9223372036854775807 ∧
    (0 < t.length → ∃ b off, a = some ⟨b, off, none⟩ ∧ ∀ i, i < t.length → ∃ x, w.cell? ⟨b, off + i, none⟩ = some x ∧ IntsAt w x (t.getD i []))

theorem keep_cell {w w' : World} (hb : Below w.heap.size w w') {a : Addr} {v : Value} (h : w.cell? a = some v) : w'.cell? a = some v :=
  (hb.cell (World.block_lt_of_cell? _ _ h)).trans h

theorem IntsAt.below {w w' : World} {v : Value} {l : List Int} (h : IntsAt w v l) (hb : Below w.heap.size w w') : IntsAt w' v l := by
  obtain ⟨a, cap, rfl, hl, h⟩ := h
  refine ⟨a, cap, rfl, hl, fun h0 => ?_⟩
  obtain ⟨b, off, ha, hc⟩ := h h0
  exact ⟨b, off, ha, fun j hj => keep_cell hb (hc j hj)⟩

theorem RowsAt.below {w w' : World} {v : Value} {t : List (List Int)} (h : RowsAt w v t) (hb : Below w.heap.size w w') : RowsAt w' v t := by
  obtain ⟨a, cap, rfl, hl, h⟩ := h
  refine ⟨a, cap, rfl, hl, fun h0 => ?_⟩
  obtain ⟨b, off, ha, hc⟩ := h h0
  refine ⟨b, off, ha, fun i hi => ?_⟩
  obtain ⟨x, hx, hi⟩ := hc i hi
  exact ⟨x, keep_cell hb hx, hi.below hb⟩

theorem below_trans {a b c : World} (h : Below a.heap.size a b) (k : Below b.heap.size b c) : Below a.heap.size a c := h.trans (k.mono h.size)

theorem belowN0 {B : Nat} {a w : World} (h : Below B a w) (q : Nat) : Below B a (w.drewN q) := ⟨h.os, h.tape, h.output, h.size, h.block⟩
theorem IntsAt.drewN {w : World} {v : Value} {l : List Int} (h : IntsAt w v l) (n : Nat) : IntsAt (w.drewN n) v l := h.below (belowN0 (Below.refl _ _) n)
theorem RowsAt.drewN {w : World} {v : Value} {t : List (List Int)} (h : RowsAt w v t) (n : Nat) : RowsAt (w.drewN n) v t := h.below (belowN0 (Below.refl _ _) n)


/-- What an owned row of one-cell elements holds. -/
theorem own_cells {W : World} {base : Nat} {e : TypeId} {v : Value} {n : Nat} {xs : List Value} (h : W.ownsRow base e 1 v n xs) :
    ∃ (a : Option Addr) (cap : Nat), v = .slice a n cap ∧ (0 < n → ∃ b off, a = some ⟨b, off, none⟩ ∧ ∀ j, j < n → W.cell? ⟨b, off + j, none⟩ = some (xs.getD j undef)) := by
  have hx := h.1
  rcases h.2 with ⟨rfl, rfl⟩ | ⟨g, cap, cur, rfl, hrest⟩
  · exact ⟨none, 0, rfl, fun h0 => by omega⟩
  · refine ⟨some ⟨g, 0, none⟩, cap, rfl, fun h0 => ⟨g, 0, rfl, fun j hj => ?_⟩⟩
    rw [Nat.zero_add, h.cellAt j (by omega), List.getD_eq_getElem?_getD, List.getElem?_eq_getElem (by omega)]
    rfl

theorem own_ints {W : World} {base : Nat} {e : TypeId} {v : Value} {l : List Int} (h : W.ownsRow base e 1 v l.length (l.map (Value.int .i64))) (hl : l.length ≤ 9223372036854775807) : IntsAt W v l := by
  obtain ⟨a, cap, rfl, hq⟩ := own_cells h
  refine ⟨a, cap, rfl, hl, fun h0 => ?_⟩
  obtain ⟨b, off, rfl, hc⟩ := hq h0
  clear hq
  refine ⟨b, off, rfl, fun j hj => ?_⟩
  rw [hc j hj]
  simp [List.getD_eq_getElem?_getD, hj]

theorem own_rows {W : World} {base : Nat} {e : TypeId} {v : Value} {t : List (List Int)} {xs : List Value} (h : W.ownsRow base e 1 v t.length xs) (hl : t.length ≤ 9223372036854775807)
    (hx : ∀ i, i < t.length → IntsAt W (xs.getD i undef) (t.getD i [])) : RowsAt W v t := by
  obtain ⟨a, cap, rfl, hq⟩ := own_cells h
  refine ⟨a, cap, rfl, hl, fun h0 => ?_⟩
  obtain ⟨b, off, rfl, hc⟩ := hq h0
  clear hq
  exact ⟨b, off, rfl, fun j hj => ⟨_, hc j hj, hx j hj⟩⟩

theorem below_append {B : Nat} {w wr w1 : World} {e : TypeId} {size : Nat} {v : Value} {n : Nat} {xs : List Value} {o : Obj} (hB : Below B w wr) (hs : B ≤ wr.heap.size) (hown : wr.ownsRow B e size v n xs)
    (hg : (wr.alloc o).grownBy w1 v.ownBlock) : Below B w w1 :=
  (hB.alloc hs o).grown hg (by simp; omega) (fun k e => (hown.lt k e).1)

theorem getD_snoc_lt {α : Type} (xs : List α) (x d : α) {i : Nat} (h : i < xs.length) : (xs ++ [x]).getD i d = xs.getD i d := by
  simp [List.getD_eq_getElem?_getD, List.getElem?_append_left h]
theorem getD_snoc_eq {α : Type} (xs : List α) (x d : α) : (xs ++ [x]).getD xs.length d = x := by
  simp [List.getD_eq_getElem?_getD]

end Go.Proofs.YtdfkaijeppdhaaaGreatDoor.Td

/- Plain mathematics of tides: sums of a function over hours, periods, the least period. No program in sight. -/
namespace Go.Proofs.YtdfkaijeppdhaaaGreatDoor.Td
/-- The sum of f over n hours from a on. -/
def acc (f : Int → Int) (a : Int) : Nat → Int
  | 0 => 0
  | n + 1 => acc f a n + f (a + n)

/-- f repeats behind p. -/
def Per (f : Int → Int) (p : Int) : Prop := ∀ h, f (h + p) = f h

theorem acc_add (f : Int → Int) (a : Int) (n m : Nat) : acc f a (n + m) = acc f a n + acc f (a + n) m := by
  induction m with
  | zero => simp [acc]
  | succ m ih =>
    rw [show n + (m + 1) = (n + m) + 1 from rfl]
    simp only [acc]
    rw [ih, show a + ((n + m : Nat) : Int) = a + n + m from by omega]
    omega

theorem acc_succ' (f : Int → Int) (a : Int) (n : Nat) : acc f a (n + 1) = f a + acc f (a + 1) n := by
  rw [show n + 1 = 1 + n from Nat.add_comm _ _, acc_add]
  simp [acc]

theorem acc_bound (f : Int → Int) (B : Int) (hf : ∀ h, -B ≤ f h ∧ f h ≤ B) (a : Int) (n : Nat) : -(B * n) ≤ acc f a n ∧ acc f a n ≤ B * n := by
  induction n with
  | zero => simp [acc]
  | succ n ih =>
    have h1 := hf (a + n)
    have e : B * ((n + 1 : Nat) : Int) = B * n + B := by rw [Int.natCast_add, Int.mul_add]; simp
    simp only [acc]
    omega

theorem Per.neg {f : Int → Int} {p : Int} (h : Per f p) : Per f (-p) := fun x => by
  have := h (x + -p); rw [show x + -p + p = x from by omega] at this; exact this.symm

theorem Per.add {f : Int → Int} {p q : Int} (h : Per f p) (k : Per f q) : Per f (p + q) := fun x => by
  rw [← Int.add_assoc, k, h]

theorem Per.zero (f : Int → Int) : Per f 0 := fun x => by rw [Int.add_zero]

theorem Per.mulNat {f : Int → Int} {p : Int} (h : Per f p) (n : Nat) : Per f (n * p) := by
  induction n with
  | zero => simpa using Per.zero f
  | succ n ih =>
    rw [Int.natCast_add, Int.add_mul]
    simpa using ih.add h

theorem Per.mul {f : Int → Int} {p : Int} (h : Per f p) (n : Int) : Per f (n * p) := by
  rcases Int.le_total 0 n with hn | hn
  · obtain ⟨k, rfl⟩ := Int.eq_ofNat_of_zero_le hn
    exact h.mulNat k
  · obtain ⟨k, hk⟩ := Int.eq_ofNat_of_zero_le (show 0 ≤ -n by omega)
    have := (h.mulNat k).neg
    rw [← hk, Int.neg_mul, Int.neg_neg] at this
    exact this

theorem Per.dvd {f : Int → Int} {p q : Int} (h : Per f p) (hd : p ∣ q) : Per f q := by
  obtain ⟨c, rfl⟩ := hd
  rw [Int.mul_comm]
  exact h.mul c

theorem Per.gcd {f : Int → Int} (a b : Nat) : Per f a → Per f b → Per f (Nat.gcd a b : Nat) := by
  induction a, b using Nat.gcd.induction with
  | H0 n => intro _ hb; simpa using hb
  | H1 m n hm ih =>
    intro ha hb
    rw [Nat.gcd_rec]
    refine ih ?_ ha
    have h1 : Per f ((n : Int) + -((n / m : Nat) : Int) * (m : Int)) := hb.add (ha.mul _)
    have e : ((n : Int) + -((n / m : Nat) : Int) * (m : Int)) = ((n % m : Nat) : Int) := by
      have h2 := Nat.div_add_mod n m
      have h3 : ((m * (n / m) + n % m : Nat) : Int) = (n : Int) := by rw [h2]
      rw [Int.natCast_add, Int.natCast_mul] at h3
      rw [Int.neg_mul, Int.mul_comm ((n / m : Nat) : Int)]
      omega
    rwa [e] at h1

/-- Reduced into a period. -/
theorem Per.mod {f : Int → Int} {p : Int} (h : Per f p) (x : Int) : f (x % p) = f x := by
  have := h.mul (x / p) (x % p)
  rw [← this, Int.emod_add_ediv_mul x p]

theorem acc_shift1 {f : Int → Int} {r : Nat} (h : Per f r) (a : Int) : acc f (a + 1) r = acc f a r := by
  have h1 := acc_succ' f a r
  simp only [acc] at h1
  rw [h] at h1
  omega

theorem acc_shiftNat {f : Int → Int} {r : Nat} (h : Per f r) (a : Int) (k : Nat) : acc f (a + k) r = acc f a r := by
  induction k with
  | zero => simp
  | succ k ih => rw [← ih, ← acc_shift1 h (a + k)]; congr 1; omega

/-- A whole period has the same sum from wherever. -/
theorem acc_whole {f : Int → Int} {r : Nat} (h : Per f r) (a b : Int) : acc f a r = acc f b r := by
  rcases Int.le_total a b with hab | hab
  · obtain ⟨k, hk⟩ := Int.eq_ofNat_of_zero_le (show 0 ≤ b - a by omega)
    rw [show b = a + k from by omega, acc_shiftNat h]
  · obtain ⟨k, hk⟩ := Int.eq_ofNat_of_zero_le (show 0 ≤ a - b by omega)
    rw [show a = b + k from by omega, acc_shiftNat h]

theorem acc_rounds {f : Int → Int} {r : Nat} (h : Per f r) (a : Int) (q s : Nat) : acc f a (q * r + s) = q * acc f 0 r + acc f a s := by
  induction q with
  | zero => simp
  | succ q ih =>
    have e : (q + 1) * r + s = (q * r + s) + r := by rw [Nat.add_mul]; omega
    rw [e, acc_add, ih, acc_whole h (a + ((q * r + s : Nat) : Int)) 0, show ((q + 1 : Nat) : Int) = (q : Int) + 1 from rfl, Int.add_mul]
    omega

/-- Whole rounds, and the rest: the sum. -/
theorem acc_parts {f : Int → Int} {r : Nat} (h : Per f r) (a : Int) (n : Nat) : ((n / r : Nat) : Int) * acc f 0 r + acc f a (n % r) = acc f a n := by
  rw [← acc_rounds h]
  congr 1
  rw [Nat.mul_comm]
  exact Nat.div_add_mod n r

/-- f repeats behind b at the hours of a round. -/
def repB (f : Int → Int) (r b : Nat) : Bool := (List.range r).all fun h => f h == f ((h : Int) + b)

/-- The first divisor b of r from k on with that, within so many tries; else r. -/
def btFrom (f : Int → Int) (r : Nat) : Nat → Nat → Nat
  | 0, _ => r
  | n + 1, b => if r % b = 0 ∧ repB f r b = true then b else btFrom f r n (b + 1)

/-- The beat. -/
def bt (f : Int → Int) (r : Nat) : Nat := btFrom f r (r - 1) 1

/-- The speed of a wave at an hour. -/
def wat (l : List Int) (h : Int) : Int := l.getD (h % (l.length : Int)).toNat 0

/-- The speed of a tide. -/
def spd (t : List (List Int)) (h : Int) : Int := (t.map (wat · h)).sum

/-- The round of a tide. -/
def rnd (t : List (List Int)) : Nat := t.foldl (fun r l => Nat.lcm r l.length) 1

/-- A valid wave, and a valid tide. -/
def wvld (l : List Int) : Bool := decide (1 ≤ l.length) && decide (l.length ≤ 12) && l.all fun n => decide (-100 ≤ n) && decide (n ≤ 100)
def vld (t : List (List Int)) : Bool := decide (1 ≤ t.length) && decide (t.length ≤ 4) && t.all wvld

structure Vld (t : List (List Int)) : Prop where
  lo : 1 ≤ t.length
  hi : t.length ≤ 4
  wave : ∀ l ∈ t, 1 ≤ l.length ∧ l.length ≤ 12 ∧ ∀ n ∈ l, -100 ≤ n ∧ n ≤ 100

theorem wvld_iff (l : List Int) : wvld l = true ↔ 1 ≤ l.length ∧ l.length ≤ 12 ∧ ∀ n ∈ l, -100 ≤ n ∧ n ≤ 100 := by
  simp [wvld, and_assoc]

theorem vld_iff (t : List (List Int)) : vld t = true ↔ Vld t := by
  simp only [vld, Bool.and_eq_true, decide_eq_true_eq, List.all_eq_true, wvld_iff]
  exact ⟨fun h => ⟨h.1.1, h.1.2, h.2⟩, fun h => ⟨⟨h.lo, h.hi⟩, h.wave⟩⟩

theorem wat_bound {l : List Int} (h : ∀ n ∈ l, -100 ≤ n ∧ n ≤ 100) (x : Int) : -100 ≤ wat l x ∧ wat l x ≤ 100 := by
  unfold wat
  rw [List.getD_eq_getElem?_getD]
  cases e : l[(x % (l.length : Int)).toNat]? with
  | none => simp
  | some y => simpa using h y (List.mem_of_getElem? e)

theorem wat_per (l : List Int) : Per (wat l) l.length := fun x => by
  unfold wat; rw [Int.add_emod_right]

theorem spd_nil (h : Int) : spd [] h = 0 := rfl
theorem spd_cons (l : List Int) (t : List (List Int)) (h : Int) : spd (l :: t) h = wat l h + spd t h := by simp [spd]
theorem spd_append (t u : List (List Int)) (h : Int) : spd (t ++ u) h = spd t h + spd u h := by simp [spd]

theorem spd_bound : ∀ (t : List (List Int)), (∀ l ∈ t, ∀ n ∈ l, -100 ≤ n ∧ n ≤ 100) → ∀ h, -(100 * (t.length : Int)) ≤ spd t h ∧ spd t h ≤ 100 * t.length
  | [], _, h => by simp [spd]
  | l :: t, ht, h => by
    have h1 := wat_bound (ht l (by simp)) h
    have h2 := spd_bound t (fun l hl => ht l (by simp [hl])) h
    rw [spd_cons, List.length_cons]
    omega

theorem Vld.bd {t : List (List Int)} (h : Vld t) (x : Int) : -400 ≤ spd t x ∧ spd t x ≤ 400 := by
  have h1 := spd_bound t (fun l hl => (h.wave l hl).2.2) x
  have := h.hi
  omega

theorem rnd_fold_pos : ∀ (t : List (List Int)) (r : Nat), 0 < r → (∀ l ∈ t, 1 ≤ l.length) → 0 < t.foldl (fun r l => Nat.lcm r l.length) r
  | [], r, h, _ => h
  | l :: t, r, h, ht => rnd_fold_pos t _ (Nat.lcm_pos h (ht l (by simp))) (fun l hl => ht l (by simp [hl]))

theorem rnd_fold_dvd : ∀ (t : List (List Int)) (r : Nat), r ∣ t.foldl (fun r l => Nat.lcm r l.length) r ∧ ∀ l ∈ t, l.length ∣ t.foldl (fun r l => Nat.lcm r l.length) r
  | [], r => ⟨Nat.dvd_refl _, by simp⟩
  | l :: t, r => by
    obtain ⟨h1, h2⟩ := rnd_fold_dvd t (Nat.lcm r l.length)
    refine ⟨Nat.dvd_trans (Nat.dvd_lcm_left _ _) h1, fun m hm => ?_⟩
    rcases List.mem_cons.1 hm with rfl | hm
    · exact Nat.dvd_trans (Nat.dvd_lcm_right _ _) h1
    · exact h2 m hm

theorem rnd_fold_least : ∀ (t : List (List Int)) (r n : Nat), r ∣ n → (∀ l ∈ t, l.length ∣ n) → t.foldl (fun r l => Nat.lcm r l.length) r ∣ n
  | [], r, n, h, _ => h
  | l :: t, r, n, h, ht => rnd_fold_least t _ n (Nat.lcm_dvd h (ht l (by simp))) (fun m hm => ht m (by simp [hm]))

theorem Vld.rnd_pos {t : List (List Int)} (h : Vld t) : 0 < rnd t := rnd_fold_pos t 1 (by omega) (fun l hl => (h.wave l hl).1)

theorem le12_dvd {n : Nat} (h1 : 1 ≤ n) (h2 : n ≤ 12) : n ∣ 27720 := by
  have : ∀ m, m < 12 → (m + 1) ∣ 27720 := by decide
  have := this (n - 1) (by omega)
  rwa [show n - 1 + 1 = n from by omega] at this

theorem Vld.rnd_all {t : List (List Int)} (h : Vld t) : rnd t ∣ 27720 :=
  rnd_fold_least t 1 27720 (Nat.one_dvd _) (fun l hl => le12_dvd (h.wave l hl).1 (h.wave l hl).2.1)

theorem Vld.rnd_le {t : List (List Int)} (h : Vld t) : rnd t ≤ 27720 := Nat.le_of_dvd (by omega) h.rnd_all

theorem spd_per_of {n : Nat} : ∀ (t : List (List Int)), (∀ l ∈ t, l.length ∣ n) → Per (spd t) n
  | [], _ => fun x => rfl
  | l :: t, h => fun x => by
    rw [spd_cons, spd_cons, spd_per_of t (fun m hm => h m (by simp [hm])) x, (wat_per l).dvd (Int.ofNat_dvd.2 (h l (by simp))) x]

theorem spd_per (t : List (List Int)) : Per (spd t) (rnd t : Nat) := spd_per_of t (rnd_fold_dvd t 1).2

end Go.Proofs.YtdfkaijeppdhaaaGreatDoor.Td
