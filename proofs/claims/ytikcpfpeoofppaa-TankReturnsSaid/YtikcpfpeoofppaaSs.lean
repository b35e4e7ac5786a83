/- How the search lies in memory. -/
import Derived.Test.YtikcpfpeoofppaaMp
import Derived.Test.YtikcpfpeoofppaaRg
import Derived.Test.YtikcpfpeoofppaaO
import Derived.Test.YtikcpfpeoofppaaK
import Derived.Test.YtikcpfpeoofppaaP
import Derived.Test.YtikcpfpeoofppaaJq
namespace Go.Proofs.Ytikcpfpeoofppaa
open Go.RowKit Go.Shelf

/-- A store into an empty map. -/
theorem run_put_empty {W : World} {M : Nat} {key val : Value} {kl : Lit} (hk : keyOf Try.prog 66 key = some kl) (hM : W.heap[M]? = some (.map #[] 0)) :
    (Instr.mapUpdate 96 (.map (some M)) key val).run Try.prog W = .ok () (W.putObj M (.map #[⟨key, val, 0⟩] 1)) := by
  have h1 : (Instr.findKey 66 key []).run Try.prog W = .ok none W := by
    rcases Try.keyedLev.find W hk [] (fun e he => by simp at he) with ⟨h, _⟩ | ⟨j, e, _, h, _⟩
    · exact h
    · simp at h
  have ht : Try.prog.underlying 96 = some (.map 66 103) := by kernel_rfl
  simp [Instr.mapUpdate, run_underlying ht, MapKept.run_getObj_map hM, Try.keyedLev.check W false hk, h1, MapKept.run_setObj_map _ hM, Result.andThen, World.putObj]

/-- Block M is a map that holds nothing. -/
def EmptyAt (W : World) (M : Nat) : Prop := W.heap[M]? = some (.map #[] 0)
theorem EmptyAt.new (W : World) (M : Nat) (h : M = W.heap.size) : EmptyAt (W.alloc (.map #[] 0)) M := by subst h; exact World.alloc_heap_new W _
theorem EmptyAt.old (W : World) (o : Obj) (M : Nat) (h : M < W.heap.size) (hM : EmptyAt W M) : EmptyAt (W.alloc o) M := (Below.heap_alloc _ _ _ h).trans hM
theorem EmptyAt.drew (W : World) (M : Nat) (hM : EmptyAt W M) : EmptyAt W.drew M := hM
theorem heap_drew (W : World) : W.drew.heap = W.heap := rfl
theorem cell_drew (W : World) (a : Addr) : W.drew.cell? a = W.cell? a := rfl
/-- What lay in w lies as it lay. -/
def KB (w W : World) : Prop := Below w.heap.size w W
theorem below_put {n : Nat} {w W : World} {M : Nat} {o : Obj} (h : Below n w W) (hM : n ≤ M) (hs : n ≤ W.heap.size) : Below n w (W.putObj M o) :=
  h.trans ((Below.refl n W).grown (grownBy_putObj' W M o) hs (fun k e => by cases e; exact hM))
theorem cell_putObj {W : World} {M : Nat} {o : Obj} {a : Addr} (h : M ≠ a.block) : (W.putObj M o).cell? a = W.cell? a := World.cell?_of_block (World.putObj_heap_other (fun e => h e.symm))
theorem frozen_putObj {W : World} {M : Nat} {o : Obj} {a : Addr} (h : ¬ M = a.block) : (W.putObj M o).frozen? a = W.frozen? a := by
  unfold World.frozen?
  rw [World.putObj_heap_other (fun e => h e.symm)]
theorem heap_alloc_lt {W : World} {o : Obj} {k : Nat} (h : k < W.heap.size) : (W.alloc o).heap[k]? = W.heap[k]? := Below.heap_alloc _ _ _ h
theorem heap_alloc_at {W : World} {o : Obj} {k : Nat} (h : k = W.heap.size) : (W.alloc o).heap[k]? = some o := by subst h; exact World.alloc_heap_new W o

/-- A map of one entry. -/
theorem ownsMap_one {t l : List Int} {W : World} {M : Nat} (ht : Tvl t) (hl : Lev t l) (hM : W.heap[M]? = some (.map #[⟨pad l, cameV noDeed [], 0⟩] 1)) : W.ownsMap Try.prog 66 asIs M 1 (mapD [(l, [], [])]) := by
  have hlt : M < W.heap.size := (Array.getElem?_eq_some_iff.1 hM).1
  have h0 : (W.putObj M (.map #[] 0)).heap[M]? = some (.map #[] 0) := World.putObj_heap_same hlt
  have hown : (W.putObj M (.map #[] 0)).ownsMap Try.prog 66 (asIs) M 0 (.map []) := ⟨#[], 0, h0, ⟨by simp, MapKept.stamped_empty 0, by simp⟩, Nat.le_refl _, rfl⟩
  have htu : Try.prog.underlying 96 = some (.map 66 103) := by kernel_rfl
  obtain ⟨w', hrun, hown', _⟩ := hown.update Try.keyedLev htu (by unfold maxLen; omega) (keyOf_pad ht hl) (show asIs (cameV noDeed []) = some (.held (cameV noDeed []), []) from rfl)
  rw [run_put_empty (keyOf_pad ht hl) h0] at hrun
  cases hrun
  obtain ⟨es, ck, hb, hF, hs, hD⟩ := hown'
  refine ⟨es, ck, ?_, hF, hs, hD⟩
  rw [World.putObj_heap_same (by simpa using hlt)] at hb
  rw [hM]
  exact hb

/-- The search in memory: a variable at Bv that points to the search at Bs, its list, its map at M. -/
structure Srch (n2 : Nat) (tv : Value) (Bv Bs M : Nat) (es : List Ent) (lv : Value) (W : World) : Prop where
  bv : W.heap[Bv]? = some (.cells #[.pointer (some ⟨Bs, 0, none⟩)] 72 (0, 0))
  st : W.heap[Bs]? = some (.cells #[tv, lv, .map (some M)] 98 (0, 0))
  row : W.ownsRow n2 66 4 lv es.length (flatP (es.map fun e : Ent => e.1))
  mp : W.ownsMap Try.prog 66 asIs M es.length (mapD es)
  hv : n2 ≤ Bv
  hs : n2 ≤ Bs
  hM : n2 ≤ M
  isS : ∃ g cap, lv = .slice (some ⟨g, 0, none⟩) es.length cap

theorem Srch.start {n2 Bv Bs M g : Nat} {tv : Value} {t l : List Int} {p0 p1 p2 p3 : Int} {W : World} (ht : Tvl t) (hl : Lev t l) (e0 : l.getD 0 0 = p0) (e1 : l.getD 1 0 = p1) (e2 : l.getD 2 0 = p2) (e3 : l.getD 3 0 = p3)
    (hbv : W.heap[Bv]? = some (.cells #[.pointer (some ⟨Bs, 0, none⟩)] 72 (0, 0)))
    (hst : W.heap[Bs]? = some (.cells #[tv, .slice (some ⟨g, 0, none⟩) 1 1, .map (some M)] 98 (0, 0)))
    (hg : W.heap[g]? = some (.cells #[.int .i64 p0, .int .i64 p1, .int .i64 p2, .int .i64 p3] 66 (0, 0)))
    (hM : W.heap[M]? = some (.map #[⟨.agg #[.int .i64 p0, .int .i64 p1, .int .i64 p2, .int .i64 p3], .agg #[.int .i64 0, .int .i64 0, .int .i64 0, .int .i64 0, .int .i64 0, .int .i64 0, .int .i64 0], 0⟩] 1)) (h1 : n2 ≤ Bv) (h2 : n2 ≤ Bs) (h3 : n2 ≤ M) (h4 : n2 ≤ g) :
    Srch n2 tv Bv Bs M [(l, [], [])] (.slice (some ⟨g, 0, none⟩) 1 1) W := by
  subst e0 e1 e2 e3
  exact ⟨hbv, hst, ⟨rfl, .inr ⟨g, 1, _, rfl, h4, hg, Nat.le_refl _, by unfold maxLen; omega, rfl, rfl⟩⟩, ownsMap_one ht hl hM, h1, h2, h3, ⟨g, 1, rfl⟩⟩

theorem Srch.lt {n2 Bv Bs M : Nat} {tv lv : Value} {es : List Ent} {W : World} (h : Srch n2 tv Bv Bs M es lv W) : Bv < W.heap.size ∧ Bs < W.heap.size ∧ M < W.heap.size ∧ ∀ k, lv.ownBlock = some k → n2 ≤ k ∧ k < W.heap.size :=
  ⟨(Array.getElem?_eq_some_iff.1 h.bv).1, (Array.getElem?_eq_some_iff.1 h.st).1, h.mp.lt, fun k hk => h.row.lt k hk⟩

theorem ownsRow_of_block {W W' : World} {n2 : Nat} {e : TypeId} {sz : Nat} {v : Value} {n : Nat} {xs : List Value} (h : W.ownsRow n2 e sz v n xs) (hk : ∀ k, v.ownBlock = some k → W'.heap[k]? = W.heap[k]?) : W'.ownsRow n2 e sz v n xs := by
  obtain ⟨h1, h2⟩ := h
  refine ⟨h1, ?_⟩
  rcases h2 with h2 | ⟨g, cap, cur, rfl, h3, h4, h5⟩
  · exact .inl h2
  · exact .inr ⟨g, cap, cur, rfl, h3, (hk g rfl).trans h4, h5⟩
theorem ownsMap_of_block {W W' : World} {M n : Nat} {D : DataW Value} (h : W.ownsMap Try.prog 66 asIs M n D) (hk : W'.heap[M]? = W.heap[M]?) : W'.ownsMap Try.prog 66 asIs M n D := by
  obtain ⟨es, ck, hb, h⟩ := h
  exact ⟨es, ck, hk.trans hb, h⟩

theorem Srch.block {n2 Bv Bs M : Nat} {tv lv : Value} {es : List Ent} {W W' : World} (h : Srch n2 tv Bv Bs M es lv W) (hk : ∀ k, k = Bv ∨ k = Bs ∨ k = M ∨ lv.ownBlock = some k → W'.heap[k]? = W.heap[k]?) : Srch n2 tv Bv Bs M es lv W' :=
  ⟨(hk _ (.inl rfl)).trans h.bv, (hk _ (.inr (.inl rfl))).trans h.st, ownsRow_of_block h.row (fun k e => hk k (.inr (.inr (.inr e)))), ownsMap_of_block h.mp (hk _ (.inr (.inr (.inl rfl)))), h.hv, h.hs, h.hM, h.isS⟩
theorem Srch.keep {n2 Bv Bs M : Nat} {tv lv : Value} {es : List Ent} {W W' : World} (h : Srch n2 tv Bv Bs M es lv W) (hk : ∀ k, k < W.heap.size → W'.heap[k]? = W.heap[k]?) : Srch n2 tv Bv Bs M es lv W' :=
  h.block fun k hc => hk k (by
    obtain ⟨h1, h2, h3, h4⟩ := h.lt
    rcases hc with rfl | rfl | rfl | hc
    · exact h1
    · exact h2
    · exact h3
    · exact (h4 k hc).2)
theorem Srch.below {n2 Bv Bs M : Nat} {tv lv : Value} {es : List Ent} {W W' : World} (h : Srch n2 tv Bv Bs M es lv W) (hb : Below W.heap.size W W') : Srch n2 tv Bv Bs M es lv W' := h.keep fun k hk => hb.block k hk

theorem Srch.cells {n2 Bv Bs M : Nat} {tv lv : Value} {es : List Ent} {W : World} (h : Srch n2 tv Bv Bs M es lv W) :
    W.cell? ⟨Bv, 0, none⟩ = some (.pointer (some ⟨Bs, 0, none⟩)) ∧ W.cell? ⟨Bs, 0, none⟩ = some tv ∧ W.cell? ⟨Bs, 1, none⟩ = some lv ∧ W.cell? ⟨Bs, 2, none⟩ = some (.map (some M)) := by
  have h1 := h.bv
  have h2 := h.st
  refine ⟨?_, ?_, ?_, ?_⟩ <;> simp [World.cell?, h1, h2]
theorem Srch.frozen {n2 Bv Bs M : Nat} {tv lv : Value} {es : List Ent} {W : World} (h : Srch n2 tv Bv Bs M es lv W) (j : Nat) : W.frozen? ⟨Bs, j, none⟩ = false := by
  have h2 := h.st
  simp [World.frozen?, h2]

theorem flatP_at : ∀ (l : List (List Int)) (j c : Nat), j < l.length → c < 4 → (flatP l)[j * 4 + c]? = some (.int .i64 ((l.getD j []).getD c 0))
  | x :: l, 0, c, _, hc => by
    have : c = 0 ∨ c = 1 ∨ c = 2 ∨ c = 3 := by omega
    rcases this with rfl | rfl | rfl | rfl <;> simp [flatP, padC]
  | x :: l, j + 1, c, h, hc => by
    have ih := flatP_at l j c (by simpa using h) hc
    rw [show (j + 1) * 4 + c = (j * 4 + c) + 4 by omega]
    simpa [flatP, padC] using ih

/-- A slice value that reads as a list of levels. -/
def LevsAt (w : World) (v : Value) (l : List (List Int)) : Prop :=
  ∃ (a : Option Addr) (cap : Nat), v = .slice a l.length cap ∧ l.length ≤ cap ∧
    (0 < l.length → ∃ b, a = some ⟨b, 0, none⟩ ∧ ∀ j c, j < l.length → c < 4 → w.cell? ⟨b, j * 4 + c, none⟩ = some (.int .i64 ((l.getD j []).getD c 0)))

theorem LevsAt.below {w w' : World} {v : Value} {l : List (List Int)} (h : LevsAt w v l) (hb : Below w.heap.size w w') : LevsAt w' v l := by
  obtain ⟨a, cap, rfl, hl, h⟩ := h
  refine ⟨a, cap, rfl, hl, fun h0 => ?_⟩
  obtain ⟨b, ha, hc⟩ := h h0
  exact ⟨b, ha, fun j c hj h4 => keep_cell hb (hc j c hj h4)⟩
theorem LevsAt.take {w : World} {b cap : Nat} {l : List (List Int)} {n : Nat} (h : LevsAt w (.slice (some ⟨b, 0, none⟩) l.length cap) l) (hn : n ≤ l.length) : LevsAt w (.slice (some ⟨b, 0, none⟩) n cap) (l.take n) := by
  obtain ⟨a, cap', e, hl, h⟩ := h
  simp only [Value.slice.injEq] at e
  obtain ⟨rfl, -, rfl⟩ := e
  have hlen : (l.take n).length = n := by rw [List.length_take]; omega
  refine ⟨_, cap, by rw [hlen], by omega, fun h0 => ?_⟩
  obtain ⟨b', e, hc⟩ := h (by omega)
  refine ⟨b', e, fun j c hj h4 => ?_⟩
  rw [hc j c (by omega) h4]
  have hj' : j < n := by omega
  have e2 : (l.take n).getD j [] = l.getD j [] := by
    rw [List.getD_eq_getElem?_getD, List.getD_eq_getElem?_getD, List.getElem?_take_of_lt hj']
  rw [e2]

theorem own_cap {W : World} {n2 : Nat} {e : TypeId} {sz g n cap : Nat} {xs : List Value} (h : W.ownsRow n2 e sz (.slice (some ⟨g, 0, none⟩) n cap) n xs) : n ≤ cap := by
  rcases h.2 with ⟨h1, _⟩ | ⟨g', cap', cur, h1, _, _, h2, _⟩
  · cases h1
  · simp only [Value.slice.injEq] at h1
    omega
theorem Srch.levs {n2 Bv Bs M : Nat} {tv lv : Value} {es : List Ent} {W : World} (h : Srch n2 tv Bv Bs M es lv W) : LevsAt W lv (es.map fun e : Ent => e.1) := by
  obtain ⟨g, cap, rfl⟩ := h.isS
  have hr := h.row
  refine ⟨some ⟨g, 0, none⟩, cap, by simp, by simpa using own_cap hr, fun _ => ⟨g, rfl, fun j c hj h4 => ?_⟩⟩
  rw [List.length_map] at hj
  rw [hr.cellAt (j * 4 + c) (by omega)]
  exact flatP_at _ j c (by simpa using hj) h4

/-- What the map has at some levels: the entry, or zeros. -/
def lookE (es : List Ent) (n : List Int) : Ent := (es.find? (fun e => e.1 = n)).getD noE
theorem lookE_in {t l : List Int} {es : List Ent} (h : Good t l es) {e : Ent} (he : e ∈ es) : lookE es e.1 = e := by
  unfold lookE
  have hn := h.nodup
  clear h
  induction es with
  | nil => simp at he
  | cons x es ih =>
    rw [List.pairwise_cons] at hn
    rw [List.find?_cons]
    rcases List.mem_cons.1 he with rfl | he
    · simp
    · rw [decide_eq_false (hn.1 e he)]
      exact ih he hn.2
theorem lookE_out {es : List Ent} {n : List Int} (h : n ∉ es.map (fun e : Ent => e.1)) : lookE es n = noE := by
  unfold lookE
  rw [List.find?_eq_none.2]
  · rfl
  · intro e he
    simp only [decide_eq_true_eq]
    exact fun h' => h (List.mem_map.2 ⟨e, he, h'⟩)

theorem zero_came (w : World) : (zeroValue 103).run Try.prog w = .ok (cameV noDeed []) w := by
  have h : (Try.prog.info? 103).map (fun i => i.zero) = some (some (cameV noDeed [])) := by kernel_rfl
  obtain ⟨i, hi, hz⟩ := Option.map_eq_some_iff.1 h
  simp [zeroValue, typeInfo, Sem.run_bind, run_program, Result.andThen, hi, hz]

/-- The look-up in the map. -/
theorem look_run {t l n : List Int} {M k : Nat} {es : List Ent} {W : World} (ht : Tvl t) (hg : Good t l es) (hn : Lev t n) (hown : W.ownsMap Try.prog 66 asIs M k (mapD es)) :
    (Instr.lookup 96 (.map (some M)) (pad n) true).run Try.prog W = .ok (.tuple #[cameV (lastD (lookE es n)) (lookE es n).2.2, .bool (decide (n ∈ es.map (fun e : Ent => e.1)))]) W := by
  have htu : Try.prog.underlying 96 = some (.map 66 103) := by kernel_rfl
  obtain ⟨v, ps, hrun, hv⟩ := hown.look_ok Try.keyedLev htu (zero_came W) (show asIs (cameV noDeed []) = some (.held (cameV noDeed []), []) from rfl) (keyOf_pad ht hn)
  rw [hrun, has_mapD ht hn hg.lev]
  simp only [asIs, Option.some.injEq, Prod.mk.injEq] at hv
  by_cases hm : n ∈ es.map (fun e : Ent => e.1)
  · obtain ⟨e, he, rfl⟩ := List.mem_map.1 hm
    rw [at_mapD ht hg _ he] at hv
    rw [lookE_in hg he]
    obtain ⟨h1, _⟩ := hv
    cases h1
    rfl
  · rw [Maps.atKey_of_not_has (by rw [has_mapD ht hn hg.lev, decide_eq_false hm])] at hv
    rw [lookE_out hm]
    obtain ⟨h1, _⟩ := hv
    cases h1
    rfl
theorem look_run1 {t l n : List Int} {M k : Nat} {es : List Ent} {W : World} (ht : Tvl t) (hg : Good t l es) (hn : Lev t n) (hown : W.ownsMap Try.prog 66 asIs M k (mapD es)) :
    (Instr.lookup 96 (.map (some M)) (pad n) false).run Try.prog W = .ok (cameV (lastD (lookE es n)) (lookE es n).2.2) W := by
  have htu : Try.prog.underlying 96 = some (.map 66 103) := by kernel_rfl
  obtain ⟨v, ps, hrun, hv⟩ := hown.lookup Try.keyedLev htu (zero_came W) (show asIs (cameV noDeed []) = some (.held (cameV noDeed []), []) from rfl) (keyOf_pad ht hn)
  rw [hrun]
  simp only [asIs, Option.some.injEq, Prod.mk.injEq] at hv
  by_cases hm : n ∈ es.map (fun e : Ent => e.1)
  · obtain ⟨e, he, rfl⟩ := List.mem_map.1 hm
    rw [at_mapD ht hg _ he] at hv
    rw [lookE_in hg he]
    obtain ⟨h1, _⟩ := hv
    cases h1
    rfl
  · rw [Maps.atKey_of_not_has (by rw [has_mapD ht hn hg.lev, decide_eq_false hm])] at hv
    rw [lookE_out hm]
    obtain ⟨h1, _⟩ := hv
    cases h1
    rfl

/-- What a round wants to know of the search. -/
theorem Srch.fact {n2 Bv Bs M i : Nat} {tv lv : Value} {t l : List Int} {W w : World} (g : List Int → Bool) (gf : Nat) (lb : Array Value) (ht : Tvl t) (hl : Lev t l)
    (hgoal : ∀ W l', Below w.heap.size w W → Lev t l' → Calls Try.prog gf (#[pad l'] ++ lb) W fun e W' => e = .returned (.bool (g l')) ∧ Below W.heap.size W W')
    (h : Srch n2 tv Bv Bs M (bfs t l i) lv W) (hlt : i < (bfs t l i).length) : ∃ (gr gcap nE : Nat) (y0 y1 y2 y3 : Int) (x : Ent), lv = .slice (some ⟨gr, 0, none⟩) nE gcap ∧ Hid ((bfs t l i).length = nE) ∧ Hid (nE ≤ 28561 ∧ nE ≤ gcap ∧ Lev t x.1 ∧ x ∈ bfs t l i ∧ x = (bfs t l i).getD i noE ∧ pad x.1 = .agg #[.int .i64 y0, .int .i64 y1, .int .i64 y2, .int .i64 y3]) ∧ i < nE ∧
      W.cell? ⟨Bv, 0, none⟩ = some (.pointer (some ⟨Bs, 0, none⟩)) ∧ W.cell? ⟨Bs, 0, none⟩ = some tv ∧ W.cell? ⟨Bs, 1, none⟩ = some (.slice (some ⟨gr, 0, none⟩) nE gcap) ∧ W.cell? ⟨Bs, 2, none⟩ = some (.map (some M)) ∧
      W.cell? ⟨gr, i * 4, none⟩ = some (.int .i64 y0) ∧ W.cell? ⟨gr, i * 4 + 1, none⟩ = some (.int .i64 y1) ∧ W.cell? ⟨gr, i * 4 + 2, none⟩ = some (.int .i64 y2) ∧ W.cell? ⟨gr, i * 4 + 3, none⟩ = some (.int .i64 y3) ∧
      Hid (∀ W, Below w.heap.size w W → Calls Try.prog gf (#[.agg #[.int .i64 y0, .int .i64 y1, .int .i64 y2, .int .i64 y3]] ++ lb) W fun e W' => e = .returned (.bool (g x.1)) ∧ Below W.heap.size W W') := by
  obtain ⟨gr, gcap, rfl⟩ := h.isS
  obtain ⟨ca, cb, cc, cd⟩ := h.cells
  obtain ⟨_, _, he, hgc, hlv⟩ := h.levs
  simp only [List.length_map, Value.slice.injEq] at he hlv hgc
  obtain ⟨rfl, -, rfl⟩ := he
  obtain ⟨_, he, hlv⟩ := hlv (by omega)
  simp only [Option.some.injEq, Addr.mk.injEq] at he
  obtain ⟨rfl, -⟩ := he
  have v0 := hlv i 0 hlt (by omega)
  have v1 := hlv i 1 hlt (by omega)
  have v2 := hlv i 2 hlt (by omega)
  have v3 := hlv i 3 hlt (by omega)
  rw [map_getD] at v0 v1 v2 v3
  rw [Nat.add_zero] at v0
  have hxm := getD_mem hlt noE
  have hxl := (bfs_at ht hl i).good.lev _ hxm
  exact ⟨_, _, _, _, _, _, _, (bfs t l i).getD i noE, rfl, Lib.hid rfl, Lib.hid ⟨Nat.le_trans (bfs_len ht hl i) (sizeR_le ht), hgc, hxl, hxm, rfl, rfl⟩, hlt, ca, cb, cc, cd, v0, v1, v2, v3, Lib.hid (fun W hb => hgoal W _ hb hxl)⟩

/-- Where the search has stopped. -/
def FoundAt (t l : List Int) (g : List Int → Bool) (n : Nat) (b : Bool) : Prop :=
  (b = true ∧ ∃ i, n = i + 1 ∧ i < (full t l).length ∧ g ((full t l).getD i noE).1 = true ∧ ∀ j, j < i → g ((full t l).getD j noE).1 = false) ∨
  (b = false ∧ n = (full t l).length ∧ ∀ j, j < n → g ((full t l).getD j noE).1 = false)
theorem FoundAt.hit {t l : List Int} {g : List Int → Bool} {n : Nat} {b : Bool} (h : FoundAt t l g n b) : hit (full t l) g = if b then some ((full t l).getD (n - 1) noE) else none := by
  rcases h with ⟨rfl, i, rfl, hi, hg, hn⟩ | ⟨rfl, rfl, hn⟩
  · simp only [if_true, Nat.add_sub_cancel]
    exact find_at _ _ i noE hi hn hg
  · exact find_no _ _ noE hn

/-- What the search hands back. -/
def NewS (tv : Value) (t l : List Int) (g : List Int → Bool) (w : World) (e : Ending) (W : World) : Prop :=
  ∃ (Bs M : Nat) (lv : Value) (n k q : Nat) (b : Bool), e = .returned (.tuple #[.pointer (some ⟨Bs, 0, none⟩), .bool b]) ∧ W.cell? ⟨Bs, 0, none⟩ = some tv ∧ W.cell? ⟨Bs, 1, none⟩ = some lv ∧ W.cell? ⟨Bs, 2, none⟩ = some (.map (some M)) ∧
    LevsAt W lv (((full t l).take n).map fun e : Ent => e.1) ∧ W.ownsMap Try.prog 66 asIs M q (mapD (bfs t l k)) ∧ n ≤ (bfs t l k).length ∧ FoundAt t l g n b ∧ Below w.heap.size w W

theorem cell_marks {B : Nat} {ms : List Nat} {W : World} (h : MarksAt B ms W) {a : Addr} {v : Value} (hc : W.cell? a = some v) : a.block ∉ ms := fun hm => by
  have := (h.2 _ hm).2
  simp [World.cell?, this] at hc
theorem map_marks {B M n : Nat} {D : DataW Value} {ms : List Nat} {W : World} (h : MarksAt B ms W) (hm : W.ownsMap Try.prog 66 asIs M n D) : M ∉ ms := fun h' => by
  have := (h.2 _ h').2
  obtain ⟨es, ck, hb, _⟩ := hm
  rw [this] at hb
  cases hb
theorem LevsAt.cells {W W' : World} {v : Value} {l : List (List Int)} (hc : ∀ a u, W.cell? a = some u → W'.cell? a = some u) (h : LevsAt W v l) : LevsAt W' v l := by
  obtain ⟨a, cap, rfl, hl, h⟩ := h
  refine ⟨a, cap, rfl, hl, fun h0 => ?_⟩
  obtain ⟨b, ha, hk⟩ := h h0
  exact ⟨b, ha, fun j c hj h4 => hc _ _ (hk j c hj h4)⟩

theorem newS_end {n2 Bs M n k q : Nat} {b : Bool} {tv lv : Value} {t l : List Int} {g : List Int → Bool} {ms : List Nat} {w W W' : World} (hst : W.heap[Bs]? = some (.cells #[tv, lv, .map (some M)] 98 (0, 0)))
    (hlev : LevsAt W lv (((full t l).take n).map fun e : Ent => e.1)) (hmp : W.ownsMap Try.prog 66 asIs M q (mapD (bfs t l k))) (hk : n ≤ (bfs t l k).length) (hf : FoundAt t l g n b) (hb : Below w.heap.size w W)
    (hms : MarksAt n2 ms W) (hn2 : w.heap.size ≤ n2) (h1 : ∀ k, k ∉ ms → W'.heap[k]? = W.heap[k]?) (h3 : Below n2 W W') : NewS tv t l g w (.returned (.tuple #[.pointer (some ⟨Bs, 0, none⟩), .bool b])) W' := by
  have hc : ∀ a u, W.cell? a = some u → W'.cell? a = some u := fun a u h => (World.cell?_of_block (h1 _ (cell_marks hms h))).trans h
  refine ⟨Bs, M, lv, n, k, q, b, rfl, hc _ _ ?_, hc _ _ ?_, hc _ _ ?_, hlev.cells hc, ownsMap_of_block hmp (h1 _ (map_marks hms hmp)), hk, hf, hb.trans (h3.mono hn2)⟩ <;> simp [World.cell?, hst]

/-- The list is cut. -/
theorem Srch.cut {n2 Bv Bs M i gr gcap nE : Nat} {tv : Value} {t l : List Int} {W : World} (ht : Tvl t) (hl : Lev t l) (h : Srch n2 tv Bv Bs M (bfs t l i) (.slice (some ⟨gr, 0, none⟩) nE gcap) W) (hE : (bfs t l i).length = nE) (hlt : i < nE) :
    (W.setCell ⟨Bs, 1, none⟩ (.slice (some ⟨gr, 0, none⟩) (i + 1) gcap)).heap[Bs]? = some (.cells #[tv, .slice (some ⟨gr, 0, none⟩) (i + 1) gcap, .map (some M)] 98 (0, 0)) ∧
    LevsAt (W.setCell ⟨Bs, 1, none⟩ (.slice (some ⟨gr, 0, none⟩) (i + 1) gcap)) (.slice (some ⟨gr, 0, none⟩) (i + 1) gcap) (((full t l).take (i + 1)).map fun e : Ent => e.1) ∧
    (W.setCell ⟨Bs, 1, none⟩ (.slice (some ⟨gr, 0, none⟩) (i + 1) gcap)).ownsMap Try.prog 66 asIs M (bfs t l i).length (mapD (bfs t l i)) := by
  have hoth : ∀ k, k ≠ Bs → (W.setCell ⟨Bs, 1, none⟩ (.slice (some ⟨gr, 0, none⟩) (i + 1) gcap)).heap[k]? = W.heap[k]? := fun k hk => Below.heap_setCell _ _ _ k hk
  have hM : M ≠ Bs := by
    rintro rfl
    obtain ⟨es, ck, hb, _⟩ := h.mp
    rw [h.st] at hb
    cases hb
  have hgr : gr ≠ Bs := by
    rintro rfl
    rcases h.row.2 with ⟨h1, _⟩ | ⟨g', cap', cur, h1, _, h2, _⟩
    · cases h1
    · simp only [Value.slice.injEq, Option.some.injEq, Addr.mk.injEq] at h1
      obtain ⟨⟨rfl, -⟩, -⟩ := h1
      rw [h.st] at h2
      simp at h2
  refine ⟨?_, ?_, ownsMap_of_block h.mp (hoth M hM)⟩
  · have := heap_set (k := 1) h.st (.slice (some ⟨gr, 0, none⟩) (i + 1) gcap)
    simpa using this
  · have h1 := h.levs
    have h2 : LevsAt W (.slice (some ⟨gr, 0, none⟩) (i + 1) gcap) ((((bfs t l i).map fun e : Ent => e.1)).take (i + 1)) := by
      have : LevsAt W (.slice (some ⟨gr, 0, none⟩) ((bfs t l i).map fun e : Ent => e.1).length gcap) ((bfs t l i).map fun e : Ent => e.1) := by rw [List.length_map, hE]; exact h1
      exact this.take (by rw [List.length_map, hE]; omega)
    rw [← List.map_take] at h2
    obtain ⟨r, hr⟩ := full_prefix ht hl i
    rw [show (full t l).take (i + 1) = (bfs t l i).take (i + 1) by rw [← hr, List.take_append_of_le_length (by omega)]]
    obtain ⟨a, cap, e, h3, h4⟩ := h2
    refine ⟨a, cap, e, h3, fun h0 => ?_⟩
    obtain ⟨b, hb, hc⟩ := h4 h0
    refine ⟨b, hb, fun j c hj h5 => ?_⟩
    simp only [Value.slice.injEq] at e
    obtain ⟨e1, -, -⟩ := e
    rw [hb] at e1
    simp only [Option.some.injEq, Addr.mk.injEq] at e1
    obtain ⟨rfl, -⟩ := e1
    exact (World.cell?_of_block (hoth _ hgr)).trans (hc j c hj h5)

/-- Between two rounds over the deeds: the search, the levels that are expanded (x), the marks. -/
structure Rnd (n2 : Nat) (tv : Value) (Bv Bs M Bn B : Nat) (ms : List Nat) (w2 : World) (x : Ent) (es : List Ent) (W : World) : Prop where
  srch : ∃ lv, Srch n2 tv Bv Bs M es lv W ∧ lv.ownBlock ≠ some Bn
  now : W.heap[Bn]? = some (.cells (padB x.1) 66 (0, 0))
  marks : MarksAt n2 ms W
  below : Below w2.heap.size w2 W
  size : B ≤ W.heap.size

theorem ne_cells {W : World} {r k : Nat} {o : Obj} {cur : Array Value} {t : TypeId} {fr : Nat × Nat} (ho : W.heap[r]? = some o) (hc : o.isCells = false) (hk : W.heap[k]? = some (.cells cur t fr)) : some k ≠ some r := fun e => by
  simp only [Option.some.injEq] at e
  subst e
  rw [ho] at hk
  cases hk
  simp [Obj.isCells] at hc

theorem Rnd.own {n2 : Nat} {tv : Value} {Bv Bs M Bn B : Nat} {ms : List Nat} {w2 : World} {x : Ent} {α : Type} (f : α → List Ent) (hM : M < B) (hD : ∀ D ∈ ms, D < B) (hn : w2.heap.size ≤ B) : OwnFrom B (fun (a : α) W => Rnd n2 tv Bv Bs M Bn B ms w2 x (f a) W) := by
  rintro a W W' row ⟨⟨lv, hS, hne⟩, hnow, hms, hb, hsz⟩ hg hr
  have cellsKept : ∀ (k : Nat) cur t fr, W.heap[k]? = some (Obj.cells cur t fr) → W'.heap[k]? = W.heap[k]? := fun k cur t fr h => by
    refine hg.block k (Array.getElem?_eq_some_iff.1 h).1 (fun e => ?_)
    obtain ⟨_, o, ho, hc⟩ := hr k e.symm
    exact ne_cells ho hc h rfl
  have lowKept : ∀ k, k < B → k < W.heap.size → W'.heap[k]? = W.heap[k]? := fun k h1 h2 => hg.block k h2 (fun e => by have := (hr k e.symm).1; omega)
  refine ⟨⟨lv, hS.block fun k hk => ?_, hne⟩, (cellsKept _ _ _ _ hnow).trans hnow, hms.kept fun D h => lowKept D (hD D h) (Array.getElem?_eq_some_iff.1 (hms.2 D h).2).1, hb.grown hg hb.size (fun k e => by have := (hr k e).1; omega), Nat.le_trans hsz hg.size⟩
  rcases hk with rfl | rfl | rfl | hk
  · exact cellsKept _ _ _ _ hS.bv
  · exact cellsKept _ _ _ _ hS.st
  · exact lowKept _ hM hS.mp.lt
  · rcases hS.row.2 with ⟨rfl, _⟩ | ⟨g, cap, cur, rfl, _, h2, _⟩
    · simp [Value.ownBlock] at hk
    · simp only [Value.ownBlock, Option.some.injEq] at hk
      subst hk
      exact cellsKept _ _ _ _ h2

theorem Rnd.keep {n2 : Nat} {tv : Value} {Bv Bs M Bn B : Nat} {ms : List Nat} {w2 : World} {x : Ent} {es : List Ent} {W W' : World} (h : Rnd n2 tv Bv Bs M Bn B ms w2 x es W) (hb : Below W.heap.size W W') : Rnd n2 tv Bv Bs M Bn B ms w2 x es W' := by
  obtain ⟨⟨lv, hS, hne⟩, hnow, hms, hb2, hsz⟩ := h
  exact ⟨⟨lv, hS.below hb, hne⟩, (hb.block _ (Array.getElem?_eq_some_iff.1 hnow).1).trans hnow, hms.kept (fun D hD => hb.block D (Array.getElem?_eq_some_iff.1 (hms.2 D hD).2).1), hb2.trans (hb.mono hb2.size), Nat.le_trans hsz hb.size⟩

theorem KeepsFrom.ofBelow {B : Nat} {W W' : World} (h : Below W.heap.size W W') : KeepsFrom B W W' := ⟨h.size, fun i _o _ hi _ => (h.block i (Array.getElem?_eq_some_iff.1 hi).1).trans hi⟩
theorem cameV_shape (d : Deed) (p : List Int) : ∃ c0 c1 c2 c3 c4 c5 c6 : Int, cameV d p = .agg #[.int .i64 c0, .int .i64 c1, .int .i64 c2, .int .i64 c3, .int .i64 c4, .int .i64 c5, .int .i64 c6] := ⟨_, _, _, _, _, _, _, rfl⟩
theorem kb_cell {W W' : World} (h : KB W W') {a : Addr} {v : Value} (hc : W.cell? a = some v) : W'.cell? a = some v := keep_cell h hc

/-- All blocks but M lie as they lay. -/
def KX (M : Nat) (w W : World) : Prop := ∀ k, k < w.heap.size → k ≠ M → W.heap[k]? = w.heap[k]?
theorem kx_cell {M n : Nat} {D : DataW Value} {w W : World} (h : KX M w W) (hm : w.ownsMap Try.prog 66 asIs M n D) {a : Addr} {v : Value} (hc : w.cell? a = some v) : W.cell? a = some v := by
  refine (World.cell?_of_block (h a.block (World.block_lt_of_cell? _ _ hc) (fun e => ?_))).trans hc
  obtain ⟨es, ck, hb, _⟩ := hm
  rw [← e] at hb
  simp [World.cell?, hb] at hc
/-- All blocks but two lie as they lay. -/
def KY (A B : Nat) (w W : World) : Prop := ∀ k, k < w.heap.size → k ≠ A → k ≠ B → W.heap[k]? = w.heap[k]?
theorem ky_cell {A B : Nat} {w W : World} (h : KY A B w W) {a : Addr} {v : Value} (hA : a.block ≠ A) (hB : a.block ≠ B) (hc : w.cell? a = some v) : W.cell? a = some v :=
  (World.cell?_of_block (h a.block (World.block_lt_of_cell? _ _ hc) hA hB)).trans hc

theorem Srch.apart {n2 Bv Bs M : Nat} {tv lv : Value} {es : List Ent} {W : World} (h : Srch n2 tv Bv Bs M es lv W) : M ≠ Bs ∧ Bv ≠ M ∧ Bv ≠ Bs ∧ (∀ g, lv.ownBlock = some g → g ≠ M ∧ g ≠ Bs ∧ g ≠ Bv ∧ ∃ cur, W.heap[g]? = some (.cells cur 66 (0, 0))) := by
  obtain ⟨es', ck, hm, _⟩ := h.mp
  have h1 := h.bv
  have h2 := h.st
  refine ⟨fun e => ?_, fun e => ?_, fun e => ?_, fun g hg => ?_⟩
  · rw [e, h2] at hm; cases hm
  · rw [e, hm] at h1; cases h1
  · rw [e, h2] at h1; simp at h1
  · rcases h.row.2 with ⟨rfl, _⟩ | ⟨g', cap, cur, rfl, _, h3, _⟩
    · simp [Value.ownBlock] at hg
    · simp only [Value.ownBlock, Option.some.injEq] at hg
      subst hg
      refine ⟨fun e => ?_, fun e => ?_, fun e => ?_, cur, h3⟩
      · rw [e, hm] at h3; cases h3
      · rw [e, h2] at h3; simp at h3
      · rw [e, h1] at h3; simp at h3

theorem Rnd.add {n2 : Nat} {tv : Value} {Bv Bs M Bn B g cap g9 cap9 : Nat} {ms : List Nat} {w2 : World} {x : Ent} {es : List Ent} {W9 W10 w1 : World} {nx : List Int} {d : Deed} {o : Obj} (hn2 : n2 = w2.heap.size) (hMB : M < B)
    (hS : Srch n2 tv Bv Bs M es (.slice (some ⟨g9, 0, none⟩) es.length cap9) W9) (hne : g9 ≠ Bn) (hnow : W9.heap[Bn]? = some (.cells (padB x.1) 66 (0, 0))) (hms : MarksAt n2 ms W9) (hbw : Below w2.heap.size w2 W9) (hsz : B ≤ W9.heap.size)
    (hown10 : W10.ownsMap Try.prog 66 asIs M (es.length + 1) ((mapD es).put (keyL nx) (.held (cameV d x.1)))) (hg10 : W9.drew.grownBy W10 (some M))
    (hown1 : w1.ownsRow n2 66 4 (.slice (some ⟨g, 0, none⟩) (es.length + 1) cap) (es.length + 1) (flatP (es.map fun e : Ent => e.1) ++ padC nx)) (hg1 : (W10.alloc o).drew.grownBy w1 (some g9)) (hat : some g9 = some g ∨ g = W10.heap.size + 1) :
    Rnd n2 tv Bv Bs M Bn B ms w2 x (es ++ [(nx, x.2.1 ++ [d], x.1)]) (w1.setCell ⟨Bs, 1, none⟩ (.slice (some ⟨g, 0, none⟩) (es.length + 1) cap)) ∧ Kq W9 (w1.setCell ⟨Bs, 1, none⟩ (.slice (some ⟨g, 0, none⟩) (es.length + 1) cap)) ∧ KeepsFrom B W9 (w1.setCell ⟨Bs, 1, none⟩ (.slice (some ⟨g, 0, none⟩) (es.length + 1) cap)) := by
  obtain ⟨a1, a2, a3, a4⟩ := hS.apart
  obtain ⟨a5, a6, a7, cur9, hcur9⟩ := a4 g9 rfl
  have hsz10 : W9.heap.size ≤ W10.heap.size := hg10.size
  have hsz1 : W10.heap.size + 1 ≤ w1.heap.size := by have := hg1.size; simpa [heap_drew] using this
  have hk1 : ∀ k, k < W9.heap.size → k ≠ M → W10.heap[k]? = W9.heap[k]? := fun k h1 h2 => hg10.block k h1 (fun e => h2 (by simpa using e))
  have hk2 : ∀ k, k < W10.heap.size → k ≠ g9 → w1.heap[k]? = W10.heap[k]? := fun k h1 h2 => (hg1.block k (by simp [heap_drew]; omega) (fun e => h2 (by simpa using e))).trans (by rw [heap_drew]; exact heap_alloc_lt h1)
  have hk3 : ∀ k, k ≠ Bs → (w1.setCell ⟨Bs, 1, none⟩ (.slice (some ⟨g, 0, none⟩) (es.length + 1) cap)).heap[k]? = w1.heap[k]? := fun k h => Below.heap_setCell _ _ _ k h
  have hkeep : ∀ k, k < W9.heap.size → k ≠ M → k ≠ g9 → k ≠ Bs → (w1.setCell ⟨Bs, 1, none⟩ (.slice (some ⟨g, 0, none⟩) (es.length + 1) cap)).heap[k]? = W9.heap[k]? := fun k h1 h2 h3 h4 =>
    (hk3 k h4).trans ((hk2 k (by omega) h3).trans (hk1 k h1 h2))
  have hl := hS.lt
  have hBs1 : w1.heap[Bs]? = some (.cells #[tv, .slice (some ⟨g9, 0, none⟩) es.length cap9, .map (some M)] 98 (0, 0)) := ((hk2 Bs (by omega) (Ne.symm a6)).trans (hk1 Bs hl.2.1 (Ne.symm a1))).trans hS.st
  obtain ⟨cg, hcg⟩ : ∃ cur, w1.heap[g]? = some (.cells cur 66 (0, 0)) := by
    rcases hown1.2 with ⟨h1, _⟩ | ⟨g', cap', cur, h1, _, h2, _⟩
    · cases h1
    · simp only [Value.slice.injEq, Option.some.injEq, Addr.mk.injEq] at h1
      obtain ⟨⟨rfl, -⟩, -⟩ := h1
      exact ⟨cur, h2⟩
  have hgBs : g ≠ Bs := fun e => by rw [e, hBs1] at hcg; simp at hcg
  have hnowlt := (Array.getElem?_eq_some_iff.1 hnow).1
  have hBnM : Bn ≠ M := fun e => by
    obtain ⟨es', ck, hm, _⟩ := hS.mp
    rw [e, hm] at hnow; cases hnow
  have hBnBs : Bn ≠ Bs := fun e => by rw [e, hS.st] at hnow; simp at hnow
  have hgBn : g ≠ Bn := by
    rcases hat with h | h
    · simp only [Option.some.injEq] at h; omega
    · omega
  refine ⟨⟨⟨.slice (some ⟨g, 0, none⟩) (es.length + 1) cap, ⟨?_, ?_, ?_, ?_, hS.hv, hS.hs, hS.hM, ⟨g, cap, by simp⟩⟩, by simpa [Value.ownBlock] using hgBn⟩, ?_, ?_, ?_, ?_⟩, ?_, ?_⟩
  · exact (hkeep Bv hl.1 a2 (Ne.symm a7) a3).trans hS.bv
  · have := heap_set (k := 1) hBs1 (.slice (some ⟨g, 0, none⟩) (es.length + 1) cap)
    simpa using this
  · have h1 : (es ++ [(nx, x.2.1 ++ [d], x.1)]).length = es.length + 1 := by simp
    rw [h1, List.map_append, List.map_singleton, flatP_snoc]
    exact ownsRow_of_block hown1 (fun k e => hk3 k (by simp only [Value.ownBlock, Option.some.injEq] at e; omega))
  · have h1 : (es ++ [(nx, x.2.1 ++ [d], x.1)]).length = es.length + 1 := by simp
    rw [h1, mapD_snoc, show lastD (nx, x.2.1 ++ [d], x.1) = d by simp [lastD]]
    exact ownsMap_of_block hown10 ((hk3 M a1).trans (hk2 M (Nat.lt_of_lt_of_le hl.2.2.1 hsz10) (Ne.symm a5)))
  · exact (hkeep Bn hnowlt hBnM (Ne.symm hne) hBnBs).trans hnow
  · refine hms.kept fun D hD => ?_
    have hDd := (hms.2 D hD).2
    refine hkeep D (Array.getElem?_eq_some_iff.1 hDd).1 (fun e => ?_) (fun e => ?_) (fun e => ?_)
    · obtain ⟨es', ck, hm, _⟩ := hS.mp
      rw [e, hm] at hDd; cases hDd
    · rw [e, hcur9] at hDd; cases hDd
    · rw [e, hS.st] at hDd; cases hDd
  · have hsz2 : w2.heap.size ≤ W9.heap.size := hbw.size
    have b1 : Below w2.heap.size w2 W10 := (hbw.drew).grown hg10 hsz2 (fun k e => by cases e; rw [← hn2]; exact hS.hM)
    have b2 : Below w2.heap.size w2 w1 := ((b1.alloc (by omega) o).drew).grown hg1 (by simp [heap_drew]; omega) (fun k e => by cases e; rw [← hn2]; exact (hl.2.2.2 g9 rfl).1)
    exact b2.setCell (p := ⟨Bs, 1, none⟩) (by rw [← hn2]; exact hS.hs) _
  · have : (w1.setCell ⟨Bs, 1, none⟩ (.slice (some ⟨g, 0, none⟩) (es.length + 1) cap)).heap.size = w1.heap.size := by simp
    omega
  · intro b cur e fr he hb
    have hblt := (Array.getElem?_eq_some_iff.1 hb).1
    refine (hkeep b hblt (fun h => ?_) (fun h => ?_) (fun h => ?_)).trans hb
    · obtain ⟨es', ck, hm, _⟩ := hS.mp
      rw [h, hm] at hb; cases hb
    · rw [h, hcur9] at hb
      simp only [Option.some.injEq, Obj.cells.injEq] at hb
      obtain ⟨_, h2, _⟩ := hb
      rcases he with rfl | rfl <;> exact absurd h2 (by decide)
    · rw [h, hS.st] at hb
      simp only [Option.some.injEq, Obj.cells.injEq] at hb
      obtain ⟨_, h2, _⟩ := hb
      rcases he with rfl | rfl <;> exact absurd h2 (by decide)
  · refine ⟨by have : (w1.setCell ⟨Bs, 1, none⟩ (.slice (some ⟨g, 0, none⟩) (es.length + 1) cap)).heap.size = w1.heap.size := by simp
               omega, fun k o' hk hb hc => ?_⟩
    refine (hkeep k (Array.getElem?_eq_some_iff.1 hb).1 (by omega) (fun h => ?_) (fun h => ?_)).trans hb
    · rw [h, hcur9] at hb; cases hb; simp [Obj.isCells] at hc
    · rw [h, hS.st] at hb; cases hb; simp [Obj.isCells] at hc

theorem heap_box_set {W : World} {B : Nat} {t : TypeId} {u : Value} (h : W.heap[B]? = some (.cells #[u] t (0, 0))) (v : Value) : (W.setCell ⟨B, 0, none⟩ v).heap[B]? = some (.cells #[v] t (0, 0)) := Boxed.set v h

end Go.Proofs.Ytikcpfpeoofppaa
