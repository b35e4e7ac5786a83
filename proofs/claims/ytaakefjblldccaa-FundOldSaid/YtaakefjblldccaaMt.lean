/- Contract: the mean over all orders (the program). -/
import Derived.Test.YtaakefjblldccaaFo
import Derived.Test.YtaakefjblldccaaTw
import Derived.Test.YtaakefjblldccaaMv
import Derived.RangeFuncCalls
namespace Go.Proofs.Ytaakefjblldccaa
open Go.RowKit

attribute [local go_sem] Oper.semAt_some


/-- What one gets over some orders. -/
def sumT (c : List Int) (e : Int) (i : Nat) (Ls : List (List Nat)) : Int := sumI (Ls.map fun L => (turnS c L (zst c e)).1.getD i 0)
def totL (c : List Int) (e : Int) (Ls : List (List Nat)) : List Int := (List.range c.length).map fun i => sumT c e i Ls
def midL (c : List Int) (e : Int) : List Rat2 := (List.range c.length).map fun i => (rn (sumT c e i (orders c.length)) (fct c.length), rd (sumT c e i (orders c.length)) (fct c.length))
def midE (c : List Int) (e : Int) : Int := if askE c e = 0 then (if 7 < c.length then 5 else 0) else askE c e
def midV (c : List Int) (e : Int) : List Rat2 := if midE c e = 0 then midL c e else []
def GivesM (c : List Int) (e0 : Int) (w : World) (e : Ending) (w' : World) : Prop :=
  ∃ v, e = .returned (.tuple #[v, .int .i64 (midE c e0)]) ∧ RatsAt w' v (midV c e0) ∧ Below w.heap.size w w'

theorem orders_in (F : Fence) (m : Nat) (hF : F.fn 72) (hro : F.round = none) (k : Int) (w : World) (hm : 1 ≤ m) :
    CallsIn F m Try.prog 72 #[.int .i64 k] w fun e w' => e = .returned (.func (.func 102) #[] #[.pointer (some ⟨w.heap.size, 0, none⟩)]) ∧ w' = w.alloc (.cells #[.int .i64 k] 3) := by
  cases F
  cases hro
  refine callsIn_of_wp Try.func72 rfl hF ?_ rfl
  simp only [Try.ntmps72, List.size_toArray, List.length_cons, List.length_nil, Nat.reduceAdd, Nat.reduceSub, Array.replicate_succ, Array.replicate_zero, List.push_toArray, List.append_toArray, List.nil_append, List.cons_append]
  gi_wp2
  exact bodyPost_ret (v := .func (.func 102) #[] #[.pointer (some ⟨w.heap.size, 0, none⟩)]) (by simp [results, Try.results72, go_sem]) rfl ⟨rfl, rfl⟩

def intsZ (l : List Int) : Array Value := (l.map (Value.int .i64)).toArray
theorem intsA_zeros (n : Nat) : intsA (List.replicate n 0) = intsZ (List.replicate n 0) := by simp [intsA, intsZ]
def addK (T R : List Int) (k : Nat) : List Int := (List.range T.length).map fun i => if i < k then T.getD i 0 + R.getD i 0 else T.getD i 0
theorem addK_len (T R : List Int) (k : Nat) : (addK T R k).length = T.length := by simp [addK]
theorem addK_zero (T R : List Int) : addK T R 0 = T := by
  apply List.ext_getElem
  · simp [addK]
  · intro i h1 h2
    simp [addK, List.getD_eq_getElem?_getD, h2]
theorem addK_at {T R : List Int} {k i : Nat} (hi : i < T.length) : (addK T R k).getD i 0 = if i < k then T.getD i 0 + R.getD i 0 else T.getD i 0 := by
  simp [addK, List.getD_eq_getElem?_getD, hi]
theorem addK_next {T R : List Int} {k : Nat} (hk : k < T.length) : (addK T R k).set k (T.getD k 0 + R.getD k 0) = addK T R (k + 1) := by
  apply List.ext_getElem
  · simp [addK]
  · intro i h1 h2
    simp only [addK, List.getElem_set, List.getElem_map, List.getElem_range]
    by_cases h : k = i
    · subst h
      simp
    · simp only [if_neg h]
      by_cases h' : i < k
      · simp [h', show i < k + 1 by omega]
      · simp [h', show ¬ i < k + 1 by omega]
/-- The blocks of the walk over all orders: so far the totals T, over k orders. -/
structure MidI (w : World) (n : Nat) (va : Option Addr) (vcap : Nat) (e : Int) (T : List Int) (k : Nat) (X : World) : Prop where
  cb : X.heap[w.heap.size]? = some (.cells #[.slice va n vcap] 29 (0, 0))
  eb : X.heap[w.heap.size + 1]? = some (.cells #[.int .i64 e] 3 (0, 0))
  tot : X.heap[w.heap.size + 1 + 1]? = some (.cells (intsZ T) 3 (0, 0))
  tb : X.heap[w.heap.size + 1 + 1 + 1]? = some (.cells #[.slice (some ⟨w.heap.size + 1 + 1, 0, none⟩) n n] 29 (0, 0))
  many : X.heap[w.heap.size + 1 + 1 + 1 + 1]? = some (.cells #[.int .i64 k] 3 (0, 0))
  bl : Below w.heap.size w X
  sz : w.heap.size + 6 ≤ X.heap.size
  len : T.length = n
  bd : ∀ i, 0 ≤ T.getD i 0 ∧ T.getD i 0 ≤ 1000 * k
theorem MidI.below {w : World} {n : Nat} {va : Option Addr} {vcap : Nat} {e : Int} {T : List Int} {k : Nat} {X Y : World} {m : Nat} (h : MidI w n va vcap e T k X) (hb : Below m X Y) (hm : w.heap.size + 5 ≤ m) : MidI w n va vcap e T k Y :=
  ⟨(hb.block _ (by omega)).trans h.cb, (hb.block _ (by omega)).trans h.eb, (hb.block _ (by omega)).trans h.tot, (hb.block _ (by omega)).trans h.tb, (hb.block _ (by omega)).trans h.many, h.bl.trans (hb.mono (by omega)), Nat.le_trans h.sz hb.size, h.len, h.bd⟩
theorem MidI.start (w : World) (n : Nat) (va : Option Addr) (vcap : Nat) (e : Int) : MidI w n va vcap e (List.replicate n 0) 0 ((((((w.alloc (Obj.cells #[Value.slice va n vcap] 29)).alloc (Obj.cells #[Value.int IntKind.i64 e] 3)).alloc (Obj.cells (intsA (List.replicate n 0)) 3)).alloc (Obj.cells #[Value.slice (some { block := w.heap.size + 1 + 1, off := 0 }) n n] 29)).alloc (Obj.cells #[Value.int IntKind.i64 0] 3)).alloc (Obj.cells #[Value.int IntKind.i64 n] 3)) := by
  have st : ∀ (X : World) (o o' : Obj) (k : Nat), X.heap[k]? = some o → (X.alloc o').heap[k]? = some o := fun X o o' k h => (Below.heap_alloc _ _ _ (Array.getElem?_eq_some_iff.1 h).1).trans h
  have nw : ∀ (X : World) (o : Obj) (k : Nat), X.heap.size = k → (X.alloc o).heap[k]? = some o := fun X o k h => by subst h; exact World.alloc_heap_new _ _
  refine ⟨?_, ?_, ?_, ?_, ?_, ?_, by simp, by simp, fun i => ?_⟩
  · exact st _ _ _ _ (st _ _ _ _ (st _ _ _ _ (st _ _ _ _ (st _ _ _ _ (nw _ _ _ rfl)))))
  · exact st _ _ _ _ (st _ _ _ _ (st _ _ _ _ (st _ _ _ _ (nw _ _ _ (by simp)))))
  · rw [← intsA_zeros]; exact st _ _ _ _ (st _ _ _ _ (st _ _ _ _ (nw _ _ _ (by simp))))
  · exact st _ _ _ _ (st _ _ _ _ (nw _ _ _ (by simp)))
  · exact st _ _ _ _ (nw _ _ _ (by simp))
  · exact (((((Below.refl _ w).alloc (Nat.le_refl _) _).alloc (by simp) _).alloc (by simp; omega) _).alloc (by simp; omega) _).alloc (by simp; omega) _ |>.alloc (by simp; omega) _
  · rw [List.getD_eq_getElem?_getD]
    by_cases h : i < n
    · simp [h]
    · simp [h]
theorem MidI.count {w : World} {n : Nat} {va : Option Addr} {vcap : Nat} {e : Int} {T : List Int} {k : Nat} {X : World} (h : MidI w n va vcap e T k X) : MidI w n va vcap e T (k + 1) (X.setCell ⟨w.heap.size + 1 + 1 + 1 + 1, 0, none⟩ (.int .i64 ((k : Int) + 1))) := by
  have ne : ∀ j, j ≠ w.heap.size + 1 + 1 + 1 + 1 → (X.setCell ⟨w.heap.size + 1 + 1 + 1 + 1, 0, none⟩ (.int .i64 ((k : Int) + 1))).heap[j]? = X.heap[j]? := fun j hj => Below.heap_setCell _ _ _ _ hj
  refine ⟨(ne _ (by omega)).trans h.cb, (ne _ (by omega)).trans h.eb, (ne _ (by omega)).trans h.tot, (ne _ (by omega)).trans h.tb, ?_, h.bl.setCell (by simp; omega) _, by rw [World.size_setCell]; exact h.sz, h.len, fun i => by have := h.bd i; omega⟩
  obtain ⟨hlt, hk⟩ := Array.getElem?_eq_some_iff.1 h.many
  show (X.heap.modify (w.heap.size + 1 + 1 + 1 + 1) _)[w.heap.size + 1 + 1 + 1 + 1]? = _
  rw [Array.getElem?_eq_getElem (by rw [Array.size_modify]; exact hlt), Array.getElem_modify_self, hk]
  simp
theorem MidI.cell {w : World} {n : Nat} {va : Option Addr} {vcap : Nat} {e : Int} {T : List Int} {k : Nat} {X : World} (h : MidI w n va vcap e T k X) {j : Nat} (hj : j < n) : X.cell? ⟨w.heap.size + 1 + 1, j, none⟩ = some (.int .i64 (T.getD j 0)) := by
  apply cell_of h.tot
  have : j < T.length := by rw [h.len]; exact hj
  simp [intsZ, List.getD_eq_getElem?_getD, this]
theorem MidI.add {w : World} {n : Nat} {va : Option Addr} {vcap : Nat} {e : Int} {T R : List Int} {k j : Nat} {X : World} (h : MidI w n va vcap e (addK T R j) k X) (hj : j < n) (hb : 0 ≤ T.getD j 0 + R.getD j 0 ∧ T.getD j 0 + R.getD j 0 ≤ 1000 * k) :
    MidI w n va vcap e (addK T R (j + 1)) k (X.setCell ⟨w.heap.size + 1 + 1, j, none⟩ (.int .i64 (T.getD j 0 + R.getD j 0))) := by
  have ne : ∀ i, i ≠ w.heap.size + 1 + 1 → (X.setCell ⟨w.heap.size + 1 + 1, j, none⟩ (.int .i64 (T.getD j 0 + R.getD j 0))).heap[i]? = X.heap[i]? := fun i hi => Below.heap_setCell _ _ _ _ hi
  have hl := h.len
  rw [addK_len] at hl
  refine ⟨(ne _ (by omega)).trans h.cb, (ne _ (by omega)).trans h.eb, ?_, (ne _ (by omega)).trans h.tb, (ne _ (by omega)).trans h.many, h.bl.setCell (by simp; omega) _, by rw [World.size_setCell]; exact h.sz, by rw [addK_len]; exact hl, fun i => ?_⟩
  · rw [← addK_next (by omega)]
    obtain ⟨hlt, hk⟩ := Array.getElem?_eq_some_iff.1 h.tot
    show (X.heap.modify (w.heap.size + 1 + 1) _)[w.heap.size + 1 + 1]? = _
    rw [Array.getElem?_eq_getElem (by rw [Array.size_modify]; exact hlt), Array.getElem_modify_self, hk]
    simp [intsZ, List.map_set]
  · rw [← addK_next (by omega)]
    have hi := h.bd i
    by_cases hij : j = i
    · subst hij
      rw [show ((addK T R j).set j (T.getD j 0 + R.getD j 0)).getD j 0 = T.getD j 0 + R.getD j 0 by simp [List.getD_eq_getElem?_getD, addK_len, show j < T.length by omega]]
      exact hb
    · rw [show ((addK T R j).set j (T.getD j 0 + R.getD j 0)).getD i 0 = (addK T R j).getD i 0 by simp [List.getD_eq_getElem?_getD, List.getElem?_set, hij]]
      exact hi
theorem ints_row {X : World} {b n : Nat} {x : List Nat} (h : X.heap[b]? = some (.cells (intsA x) 3 (0, 0))) (hl : x.length = n) (hn : n ≤ 7) : IntsAt X (.slice (some ⟨b, 0, none⟩) n n) (asI x) := by
  subst hl
  refine ⟨some ⟨b, 0, none⟩, x.length, by rw [asI_len], by rw [asI_len]; omega, fun _ => ⟨b, 0, rfl, fun j hj => ?_⟩⟩
  rw [asI_len] at hj
  apply cell_of h
  simp [intsA, asI, List.getD_eq_getElem?_getD, hj]
theorem below_put {m l : Nat} {w X : World} {o : Obj} (h : Below m w X) (hl : m ≤ l) : Below m w (X.putObj l o) :=
  h.trans ⟨rfl, rfl, rfl, by simp [World.putObj], fun k hk => World.putObj_heap_other (by omega)⟩
theorem totL_nil (c : List Int) (e : Int) : totL c e [] = List.replicate c.length 0 := by
  apply List.ext_getElem
  · simp [totL]
  · intro i h1 h2
    simp [totL, sumT, sumI]
theorem turnS_in {c : List Int} (hc : ∀ x ∈ c, 0 ≤ x) : ∀ (L : List Nat) (s : List Int × Int), (∀ i ∈ L, i < c.length) → 0 ≤ s.2 → (∀ i, 0 ≤ s.1.getD i 0 ∧ s.1.getD i 0 ≤ c.getD i 0) → ∀ i, 0 ≤ (turnS c L s).1.getD i 0 ∧ (turnS c L s).1.getD i 0 ≤ c.getD i 0
  | [], s, _, _, h => h
  | j :: L, s, hl, h2, h => by
    have hj := hc _ (mem_getD (hl j (by simp)))
    refine turnS_in hc L _ (fun i hi => hl i (by simp [hi])) (by simp only; omega) (fun i => ?_)
    simp only [List.getD_eq_getElem?_getD, List.getElem?_set]
    have hi := h i
    simp only [List.getD_eq_getElem?_getD] at hi hj
    split
    · rename_i hji
      subst hji
      split
      · simp only [Option.getD_some, List.getD_eq_getElem?_getD]
        omega
      · simp only [Option.getD_none]
        omega
    · exact hi
theorem sumT_snoc (c : List Int) (e : Int) (i : Nat) (pre : List (List Nat)) (x : List Nat) : sumT c e i (pre ++ [x]) = sumT c e i pre + (turnS c x (zst c e)).1.getD i 0 := by
  unfold sumT
  rw [List.map_append, sumI_append]
  simp [sumI]
theorem totL_snoc (c : List Int) (e : Int) (pre : List (List Nat)) (x : List Nat) : addK (totL c e pre) (turnS c x (zst c e)).1 c.length = totL c e (pre ++ [x]) := by
  apply List.ext_getElem
  · simp [addK, totL]
  · intro i h1 h2
    have hi : i < c.length := by simpa [addK, totL] using h1
    simp only [addK, totL, List.getElem_map, List.getElem_range, if_pos hi]
    rw [sumT_snoc]
    simp [List.getD_eq_getElem?_getD, hi]
theorem fct_pos (n : Nat) : 1 ≤ fct n := by
  induction n with
  | zero => exact Nat.le_refl _
  | succ n ih => exact Nat.le_trans ih (Nat.le_mul_of_pos_left _ (by omega))
theorem fct_le {n : Nat} (h : n ≤ 7) : fct n ≤ 5040 := by
  have : ∀ m, m < 8 → fct m ≤ 5040 := by decide
  exact this n (by omega)

set_option maxRecDepth 100000 in
set_option maxHeartbeats 20000000 in
theorem tMiddle_in (v : Value) (c : List Int) (e : Int) (w : World) (hv : IntsAt w v c) (hask : askE c e = 0) (h7 : c.length ≤ 7) :
    CallsIn Fence.wide (2 + 1 + c.length + 1 + 1) Try.prog 31 #[v, .int .i64 e] w (GivesM c e w) := by
  have V := Lib.hid hv
  obtain ⟨va, vcap, rfl, _⟩ := hv
  obtain ⟨hc, he1, he2⟩ := askE_ok2 hask
  have HH := Lib.hid hc
  have ME := Lib.hid (show midE c e = 0 by unfold midE; rw [if_pos hask, if_neg (by omega)])
  have hB2 : Below w.heap.size w ((w.alloc (.cells #[.slice va c.length vcap] 29)).alloc (.cells #[.int .i64 e] 3)) := ((Below.refl _ w).alloc (Nat.le_refl _) _).alloc (by simp) _
  have CK := Lib.hid (checked_any _ c e _ (V.out.below hB2))
  rw [hask] at CK
  have HB2 := Lib.hid hB2
  obtain ⟨j0, hj0, hy0, hy1, hy2⟩ := info_parts Try.infoInt
  have hn1 : 1 ≤ 2 + 1 + c.length + 1 + 1 := by omega
  have h7' : ¬ ((7 : Int) < c.length) := by omega
  clear hB2 hask hc
  refine callsIn_of_wp_marks Try.func31 rfl trivial ?_ rfl
  simp only [Try.ntmps31, List.size_toArray, List.length_cons, List.length_nil, Nat.reduceAdd, Nat.reduceSub, Array.replicate_succ, Array.replicate_zero, List.push_toArray, List.append_toArray, List.nil_append, List.cons_append]
  gi_wp2_with fail
  refine ⟨trivial, callsIn_wide.2 (CK.out.mono ?_)⟩
  rintro e' w' ⟨rfl, rfl⟩
  gi_wp2_with (gi_at_make; refine wpListIn_make_at _ rfl _ _ 29 rfl 3 j0 (.int .i64 0) Try.underlying29 hj0 hy0 .i64 .i64 c.length rfl rfl (by rw [hy2]; omega) (by unfold maxLen; omega) ?_; rw [hy1, zeros_row])
  refine ⟨trivial, (orders_in Fence.wide _ trivial rfl _ _ (by omega)).mono ?_⟩
  rintro e' w' ⟨rfl, rfl⟩
  gi_wp2_with fail
  obtain ⟨W6, hW6⟩ : ∃ W6, W6 = (((((w.alloc (Obj.cells #[Value.slice va c.length vcap] 29)).alloc (Obj.cells #[Value.int IntKind.i64 e] 3)).alloc (Obj.cells (intsA (List.replicate c.length 0)) 3)).alloc (Obj.cells #[Value.slice (some { block := w.heap.size + 1 + 1, off := 0 }) c.length c.length] 29)).alloc (Obj.cells #[Value.int IntKind.i64 0] 3)).alloc (Obj.cells #[Value.int IntKind.i64 c.length] 3) := ⟨_, rfl⟩
  have M0 := MidI.start w c.length va vcap e
  have NB : W6.heap[w.heap.size + 5]? = some (.cells #[.int .i64 c.length] 3 (0, 0)) := by
    rw [hW6]
    have := World.alloc_heap_new (((((w.alloc (Obj.cells #[Value.slice va c.length vcap] 29)).alloc (Obj.cells #[Value.int IntKind.i64 e] 3)).alloc (Obj.cells (intsA (List.replicate c.length 0)) 3)).alloc (Obj.cells #[Value.slice (some { block := w.heap.size + 1 + 1, off := 0 }) c.length c.length] 29)).alloc (Obj.cells #[Value.int IntKind.i64 0] 3)) (Obj.cells #[Value.int IntKind.i64 c.length] 3)
    simpa using this
  rw [← hW6] at M0 ⊢
  have Z6 : W6.heap.size = w.heap.size + 6 := by rw [hW6]; simp
  have M1 := Lib.hid M0
  clear hW6 CK M0 HB2
  refine range_low rfl hn1 (gf := 102) (lb := #[.pointer (some ⟨w.heap.size + 5, 0, none⟩)]) rfl trivial (enters_of Try.func102 (by kernel_rfl) rfl)
    (orders_low c.length (w.heap.size + 5) (w.heap.size + 5) 2 h7 (Nat.le_refl _) W6 (by omega) NB) (by omega) (Below.refl _ _) rfl
    (fun B x v X X' hk h => ⟨h.1, (hk _ (by omega)).trans h.2.1, h.2.2⟩)
    (fun pre X => MidI w c.length va vcap e (totL c e pre) pre.length X)
    (fun pre X X' hX h => h.below hX (by omega)) (by rw [totL_nil]; exact M1.out)
    (fun v => { tmps := #[.slice va c.length vcap, .int .i64 e, .pointer (some ⟨w.heap.size, 0, none⟩), .pointer (some ⟨w.heap.size + 1, 0, none⟩), .slice none 0 0, .int .i64 0, .int .i64 0, .pointer (some ⟨w.heap.size + 1 + 1 + 1, 0, none⟩), .pointer (some ⟨w.heap.size + 1 + 1 + 1 + 1, 0, none⟩), v, undef, undef, undef, undef, undef, .slice va c.length vcap, .int .i64 e, .int .i64 0, .bool false, .int .i64 0, .bool false, undef, .bool (decide (7 < (c.length : Int))), .slice va c.length vcap, .int .i64 c.length, .bool (decide (7 < (c.length : Int))), .slice va c.length vcap, .int .i64 c.length, .slice (some ⟨w.heap.size + 1 + 1, 0, none⟩) c.length c.length, .slice va c.length vcap, .int .i64 c.length, .func (.func 102) #[] #[.pointer (some ⟨w.heap.size + 5, 0, none⟩)], v, undef, undef, undef, undef, undef, undef, undef, undef, undef, undef, undef, undef, undef, undef, undef, undef, undef, undef, undef, undef, undef, undef, undef, undef, undef, undef, undef, undef, undef, undef, undef, undef, undef, undef], defers := [] })
    ?assign ?body ?done
  case assign =>
    rintro l m v W K hK
    gi_wp2
    exact hK
  case body =>
    rintro l m pre x v X hm hlen hX hI ⟨rfl, hrow, hxl, hxb⟩
    rw [orders, pF_len] at hlen
    rw [Z6] at hrow hX
    have hf := fct_le h7
    have hp : (pre.length : Int) + 1 ≤ 5040 := by omega
    have c8 := cell_of hI.many (j := 0) rfl
    have f8 : X.frozen? ⟨w.heap.size + 1 + 1 + 1 + 1, 0, none⟩ = false := by simp [World.frozen?, hI.many]
    have I1 := hI.count
    obtain ⟨X1, hX1⟩ : ∃ X1, X1 = X.setCell ⟨w.heap.size + 1 + 1 + 1 + 1, 0, none⟩ (.int .i64 ((pre.length : Int) + 1)) := ⟨_, rfl⟩
    have Z1 : X1.heap.size = X.heap.size := by rw [hX1]; exact World.size_setCell _ _ _
    have K1 : ∀ k, w.heap.size + 5 ≤ k → X1.heap[k]? = X.heap[k]? := fun k hk => by rw [hX1]; exact Below.heap_setCell _ _ _ _ (show k ≠ w.heap.size + 1 + 1 + 1 + 1 by omega)
    have cc := cell_of I1.cb (j := 0) rfl
    have ce := cell_of I1.eb (j := 0) rfl
    rw [← hX1] at I1
    have hrow1 := (K1 _ (by omega)).trans hrow
    have TN := Lib.hid (turn_any (.slice va c.length vcap) (.slice (some ⟨w.heap.size + 6 + 2 + 1, 0, none⟩) c.length c.length) c x e X1 (V.out.below I1.bl) (ints_row hrow1 hxl h7) HH.out hxb (by omega) ⟨he1, by have := HH.out.tot; omega⟩)
    have HT := Lib.hid (show ∀ i, 0 ≤ (totL c e pre).getD i 0 ∧ (totL c e pre).getD i 0 ≤ 1000 * pre.length from hI.bd)
    have HTL := Lib.hid hI.len
    have TS := Lib.hid (totL_snoc c e pre x)
    have RB := Lib.hid (show ∀ i, 0 ≤ (turnS c x (zst c e)).1.getD i 0 ∧ (turnS c x (zst c e)).1.getD i 0 ≤ 1000 from fun i => by
      have h := turnS_in (fun x hx => (HH.out.holds x hx).1) x (zst c e) hxb he1 (fun i => by
        have h0 : (zst c e).1.getD i 0 = 0 := by
          simp only [zst, List.getD_eq_getElem?_getD]
          by_cases h : i < c.length
          · simp [h]
          · simp [h]
        rw [h0]
        refine ⟨Int.le_refl _, ?_⟩
        by_cases h : i < c.length
        · exact (HH.out.holds _ (mem_getD h)).1
        · simp [List.getD_eq_getElem?_getD, h]) i
      refine ⟨h.1, Int.le_trans h.2 ?_⟩
      by_cases h : i < c.length
      · exact (HH.out.holds _ (mem_getD h)).2
      · simp [List.getD_eq_getElem?_getD, h])
    have RL := Lib.hid (show (turnS c x (zst c e)).1.length = c.length by rw [turnS_len]; simp [zst])
    have HI1 := Lib.hid I1
    have HK1 := Lib.hid K1
    have HZ1 := Lib.hid Z1
    have HX1 := Lib.hid hX1
    unfold GivesT at TN
    generalize (turnS c x (zst c e)).1 = R at *
    generalize totL c e pre = T at *
    clear I1 K1 Z1 hI hrow hrow1 hX1 NB
    gi_wp2_with fail
    rw [← HX1.out]
    refine ⟨trivial, fun _ => by omega, CallsIn.inRound l (callsIn_wide.2 (TN.out.mono ?_))⟩
    rintro e' w2 ⟨g, rfl, hO, hb2⟩
    have I2 := HI1.out.below hb2 (by have := HI1.out.sz; omega)
    have Z2 := hb2.size
    have K2 : ∀ k, w.heap.size + 5 ≤ k → k < X.heap.size → w2.heap[k]? = X.heap[k]? := fun k h1 h2 => (hb2.block k (by rw [HZ1.out]; exact h2)).trans (HK1.out k h1)
    have HK2 := Lib.hid K2
    have HO := Lib.hid hO
    rw [← addK_zero T R] at I2
    have HI2 := Lib.hid I2
    have hg := hO.base
    rw [HZ1.out] at Z2 hg
    have hgl : g < w2.heap.size := by
      have := hO.cell 0 (by rw [RL.out]; exact HH.out.lo)
      exact World.block_lt_of_cell? _ _ this
    have HC := Lib.hid (fun j (hj : j < c.length) => hO.cell j (by rw [RL.out]; exact hj))
    clear hO hb2 I2 K2 HI1 HK1 HZ1 HX1 TN c8 f8 cc ce
    gi_wp2
    gi_loopw [40] (fun iv wr => ∃ k : Nat, k ≤ c.length ∧ iv = .int .i64 k ∧ MidI w c.length va vcap e (addK T R k) (pre.length + 1) wr ∧ w2.heap.size ≤ wr.heap.size ∧ ∀ k', w.heap.size + 5 ≤ k' → k' < w2.heap.size → wr.heap[k']? = w2.heap[k']?) (fun iv _ => c.length - (intOf iv).toNat)
    case atStart => exact ⟨0, Nat.zero_le _, rfl, HI2.out, Nat.le_refl _, fun _ _ _ => rfl⟩
    case round =>
      obtain ⟨k, hk, rfl, hI3, hs3, hk3⟩ := hrel
      by_cases hlt : k < c.length
      · have hlt' : (k : Int) < (c.length : Int) := by omega
        have g1 := (World.cell?_of_block (a := ⟨g, k, none⟩) (hk3 g (by omega) hgl)).trans (HC.out k hlt)
        have c7 := cell_of hI3.tb (j := 0) rfl
        have ct := hI3.cell hlt
        rw [addK_at (by rw [HTL.out]; exact hlt), if_neg (Nat.lt_irrefl k)] at ct
        have ft : wr.frozen? ⟨w.heap.size + 1 + 1, k, none⟩ = false := by simp [World.frozen?, hI3.tot]
        have bt := HT.out k
        have br := RB.out k
        have HN := Lib.hid (hI3.add hlt (by omega))
        have HK3 := Lib.hid (show ∀ (x : Value) k', w.heap.size + 5 ≤ k' → k' < w2.heap.size → (wr.setCell ⟨w.heap.size + 1 + 1, k, none⟩ x).heap[k']? = w2.heap[k']? from fun x k' h1 h2 => (Below.heap_setCell _ _ _ _ (show k' ≠ w.heap.size + 1 + 1 by omega)).trans (hk3 k' h1 h2))
        clear hI3 hk3
        generalize T.getD k 0 = tk at *
        generalize R.getD k 0 = rk at *
        gi_wp2
        exact ⟨⟨k + 1, by omega, by go_num, HN.out, by rw [World.size_setCell]; exact hs3, HK3.out _⟩, by simp [intOf]; omega⟩
      · have ek : k = c.length := by omega
        subst ek
        have HN := Lib.hid hI3
        have HK3 := Lib.hid hk3
        clear hI3 hk3
        gi_wp2
        refine ⟨?_, by omega, fun k h1 h2 => (HK3.out k h1 (by omega)).trans (HK2.out k h1 h2)⟩
        rw [← TS.out]
        exact HN.out
  case done =>
    intro W' hI hD
    have hsz := hI.sz
    have hol : (orders c.length).length = fct c.length := by rw [orders, pF_len]
    rw [hol] at hI
    rw [Z6] at hD ⊢
    have c7 := cell_of hI.tb (j := 0) rfl
    have hf := fct_le h7
    have hf1 := fct_pos c.length
    have HI := Lib.hid hI
    have HD := Lib.hid hD
    have ML := Lib.hid (show (midL c e).length = c.length by simp [midL])
    obtain ⟨i0, hi0, hq0, hq1, hq2⟩ := info_parts Try.infoRatio
    have TB := Lib.hid (hI.bd)
    have TV := Lib.hid (show ∀ k, k < c.length → (totL c e (orders c.length)).getD k 0 = sumT c e k (orders c.length) from fun k hk => by simp [totL, List.getD_eq_getElem?_getD, hk])
    have MT := Lib.hid (show ∀ k, k < c.length → (midL c e).take (k + 1) = (midL c e).take k ++ [(rn (sumT c e k (orders c.length)) (fct c.length), rd (sumT c e k (orders c.length)) (fct c.length))] from fun k hk => by
      rw [List.take_succ_eq_append_getElem (by simp [midL]; exact hk)]
      simp [midL])
    have HBW := Lib.hid hI.bl
    clear hI hD hol M1 NB
    gi_wp2
    gi_loopw [12, 55] (fun sv iv wr => ∃ k : Nat, k ≤ c.length ∧ iv = .int .i64 k ∧ OwnR wr W'.heap.size sv ((midL c e).take k) ∧ Below W'.heap.size W' wr) (fun _ iv _ => c.length - (intOf iv).toNat)
    case atStart => exact ⟨0, Nat.zero_le _, rfl, OwnR.nil _ _, Below.refl _ _⟩
    case round =>
      obtain ⟨k, hk, rfl, hown, hbel⟩ := hrel
      have hTk : ((midL c e).take k).length ≤ 7 := by have := ML.out; simp; omega
      by_cases hlt : k < c.length
      · have hlt' : (k : Int) < (c.length : Int) := by omega
        have ct := keep_cell hbel (HI.out.cell hlt)
        have c8 := keep_cell hbel (cell_of HI.out.many (j := 0) rfl)
        have tb := TB.out k
        rw [TV.out k hlt] at ct tb
        have T := Lib.hid (MT.out k hlt)
        generalize sumT c e k (orders c.length) = S at *
        have RC := Lib.hid (ratio_any S (fct c.length) wr (by omega) (by omega) (by omega) (by omega))
        generalize fct c.length = q at *
        unfold ratV at RC
        gi_wp2_with fail
        refine ⟨trivial, callsIn_wide.2 (RC.out.mono ?_)⟩
        rintro e' w2 ⟨rfl, hb2⟩
        have hownW := hown.below hb2
        have hbW : Below W'.heap.size W' w2 := hbel.trans (hb2.mono hbel.size)
        have hbs := hbW.size
        clear hown hbel hb2 ct c8
        generalize rn S q = x at *
        generalize rd S q = y at *
        gi_wp2_with (gi_at_builtin; refine wpListIn_append_own _ rfl _ _ 30 rfl W'.heap.size 23 i0 (.agg #[.int .i64 0, .int .i64 0]) 2 16 Try.underlying30 hi0 hq0 hq1 hq2 rfl (by decide) _ _ _ rfl (hownW.row.alloc _) ⟨w2.heap.size, 0, none⟩ 1 1 [.int .i64 x, .int .i64 y] rfl rfl (cell2_new _ _ _ _ rfl) ?c2 ?c3 ?c4 ?c5 ?_)
        case c2 => intro u hu; simp at hu; rcases hu with rfl | rfl <;> rfl
        case c3 => unfold maxLen; omega
        case c4 => omega
        case c5 => simp; omega
        intro v' w3 hown' hgrow _
        have O3 : Hid (OwnR w3 W'.heap.size v' ((midL c e).take (k + 1))) := Lib.hid (by rw [T.out]; exact OwnR.snoc (by first | rfl | simp) hown')
        have B3 := Lib.hid (below_append hbW hbs hownW.row hgrow)
        clear hown' hgrow hownW hbW
        gi_wp2
        go_roundw
        case rel => exact ⟨k + 1, by omega, by go_num, O3.out, B3.out⟩
        case measure => simp [intOf]; omega
      · have ek : k = c.length := by omega
        subst ek
        rw [List.take_of_length_le (by rw [ML.out]; exact Nat.le_refl _)] at hown
        have O := Lib.hid hown
        have B := Lib.hid hbel
        clear hown hbel
        have DD := (B.out.block _ (Array.getElem?_eq_some_iff.1 HD.out).1).trans HD.out
        have hb6 : Below w.heap.size w wr := HBW.out.trans (B.out.mono (by omega))
        have OO := Lib.hid (show OwnR (wr.putObj (w.heap.size + 6) (.deferred none)) W'.heap.size u12 (midL c e) from ownsRow_putObj O.out _ DD rfl)
        have HB6 : Hid (Below w.heap.size w (wr.putObj (w.heap.size + 6) (.deferred none))) := Lib.hid (below_put hb6 (by omega))
        have HDD := Lib.hid DD
        clear DD hb6
        gi_wp2
        refine ⟨by simp, .inl ⟨_, _, rfl, run_takeDeferred HDD.out, ?_⟩⟩
        exact ⟨_, results_tmp2 rfl _ _ _, u12, by rw [ME.out]; rfl, by unfold midV; rw [if_pos ME.out]; exact OO.out.at (by rw [ML.out]; omega), HB6.out⟩

theorem rats_nil (w : World) : RatsAt w (.slice none 0 0) [] := ⟨none, 0, rfl, ⟨by simp, by simp⟩, fun h => by simp at h⟩

set_option maxRecDepth 100000 in
set_option maxHeartbeats 4000000 in
theorem tMiddle_any (v : Value) (c : List Int) (e : Int) (w : World) (hv : IntsAt w v c) :
    Calls Try.prog 31 #[v, .int .i64 e] w (GivesM c e w) := by
  by_cases hok : askE c e = 0 ∧ c.length ≤ 7
  · exact (callsIn_wide (n := _)).1 (tMiddle_in v c e w hv hok.1 hok.2)
  · have V := Lib.hid hv
    obtain ⟨va, vcap, rfl, _⟩ := hv
    have hB2 : Below w.heap.size w ((w.alloc (.cells #[.slice va c.length vcap] 29)).alloc (.cells #[.int .i64 e] 3)) := ((Below.refl _ w).alloc (Nat.le_refl _) _).alloc (by simp) _
    have CK := Lib.hid (checked_any _ c e _ (V.out.below hB2))
    have HB2 := Lib.hid hB2
    clear hB2
    by_cases hask : askE c e = 0
    · have h7 : (7 : Int) < c.length := by omega
      have ME := Lib.hid (show midE c e = 5 by unfold midE; rw [if_pos hask, if_pos (by omega)])
      rw [hask] at CK
      clear hask hok
      go_enter Try.func31, Try.ntmps31
      go_wp2_with fail
      refine CK.out.mono ?_
      rintro e' w' ⟨rfl, rfl⟩
      go_wp2
      go_ret2
      exact ⟨_, by rw [ME.out]; rfl, by unfold midV; rw [if_neg (by rw [ME.out]; decide)]; exact rats_nil _, HB2.out⟩
    · have ME := Lib.hid (show midE c e = askE c e by unfold midE; rw [if_neg hask])
      have MN := Lib.hid hask
      have hb : (askE c e != 0) = true := bne_iff_ne.2 hask
      generalize askE c e = ae at *
      clear hask hok
      go_enter Try.func31, Try.ntmps31
      go_wp2_with fail
      refine CK.out.mono ?_
      rintro e' w' ⟨rfl, rfl⟩
      go_wp2
      go_ret2
      exact ⟨_, by rw [ME.out]; rfl, by unfold midV; rw [if_neg (by rw [ME.out]; exact MN.out)]; exact rats_nil _, HB2.out⟩

end Go.Proofs.Ytaakefjblldccaa
