/- Contract: going over all orders (the iterator). -/
import Derived.Test.YtaakefjblldccaaFr
import Derived.Test.YtaakefjblldccaaTw
namespace Go.Proofs.Ytaakefjblldccaa
open Go.RowKit

attribute [local go_sem] Oper.semAt_some


theorem wpListIn_make_at {F : Fence} {n : Nat} {P : Program} (w : World) {ops : Array Oper} {rest : List Oper} {o : Oper} {a : Act} {Q : Exit → Act → World → Prop}
    (hg : o.guard = none) (l c : Operand) (t : TypeId) (hop : o.op = Op.makeSlice t l c)
    (e : TypeId) (i : TypeInfo) (z : Value) (h1 : P.underlying t = some (.slice e)) (h2 : P.info? e = some i) (h3 : i.zero = some z)
    (kl kc : IntKind) (N : Nat) (hl : a.eval l = .int kl (N : Int)) (hc : a.eval c = .int kc (N : Int)) (b2 : i.bytes * N ≤ 281474976710656) (b3 : N ≤ maxLen)
    (hK : wpListIn F n P ops Q rest (a.put o.dst (.slice (some ⟨w.heap.size, 0, none⟩) N N)) (w.alloc (.cells (madeCells z.cells (N * i.size)) e))) :
    wpListIn F n P ops Q (o :: rest) a w := by
  refine wpListIn_plain hg fun K hK' => ?_
  have b3' : (N : Int) ≤ 9223372036854775807 := by
    have h := b3
    simp [maxLen] at h
    omega
  have b2' : (i.bytes : Int) * (N : Int) ≤ 281474976710656 := by
    have h : ((i.bytes * N : Nat) : Int) ≤ 281474976710656 := by omega
    rwa [Int.natCast_mul] at h
  have hrun := run_make (P := P) w t e i z h1 h2 h3 kl kc N N (by omega) (Int.le_refl _) b2' b3'
  simp only [Int.toNat_natCast] at hrun
  unfold Oper.wpIn
  refine ⟨?_, ?_⟩
  · simp [Oper.about, hop]
  · rw [Oper.semAt_plain F _ _ (by rw [hop]; intro c hc'; cases hc')]
    simp [execOp, hop, hl, hc, hrun, Result.andThen]
    exact hK' _ _ hK

theorem zeros_row (n : Nat) : madeCells (Value.int .i64 0).cells (n * 1) = intsA (List.replicate n 0) := by
  apply Array.ext'
  unfold madeCells
  apply List.ext_getElem
  · simp [intsA]
  · intro i h1 h2
    simp [intsA, Value.cells, Nat.mod_one]

def rowK (n k : Nat) : List Nat := List.range k ++ List.replicate (n - k) 0
/-- The iterator's blocks while its row is laid. -/
structure Og (W : World) (n lo : Nat) (l : List Nat) (X : World) : Prop where
  yb : X.heap[W.heap.size]? = some (.cells #[.func (.yield lo) #[] #[]] 31 (0, 0))
  rb : X.heap[W.heap.size + 1]? = some (.cells (intsA l) 3 (0, 0))
  hb : X.heap[W.heap.size + 1 + 1]? = some (.cells #[.slice (some ⟨W.heap.size + 1, 0, none⟩) n n] 29 (0, 0))
  sz : X.heap.size = W.heap.size + 3
  bl : Below W.heap.size W X
theorem rowK_len {n k : Nat} (h : k ≤ n) : (rowK n k).length = n := by simp [rowK]; omega
theorem rowK_next {n k : Nat} (h : k < n) : (rowK n k).set k k = rowK n (k + 1) := by
  unfold rowK
  rw [List.range_succ, show n - k = (n - (k + 1)) + 1 by omega, List.replicate_succ, List.set_append_right _ _ (by simp), List.append_assoc]
  simp
theorem Og.start (W : World) (n lo : Nat) : Og W n lo (rowK n 0) (((W.alloc (Obj.cells #[Value.func (Fn.yield lo) #[] #[]] 31)).alloc (Obj.cells (intsA (List.replicate n 0)) 3)).alloc (Obj.cells #[Value.slice (some { block := W.heap.size + 1, off := 0 }) n n] 29)) := by
  have e : rowK n 0 = List.replicate n 0 := by simp [rowK]
  rw [e]
  refine ⟨?_, ?_, ?_, by simp, ?_⟩
  · exact (Below.heap_alloc _ _ _ (by simp; omega)).trans ((Below.heap_alloc _ _ _ (by simp)).trans (World.alloc_heap_new W _))
  · have := World.alloc_heap_new (W.alloc (Obj.cells #[Value.func (Fn.yield lo) #[] #[]] 31)) (Obj.cells (intsA (List.replicate n 0)) 3)
    rw [World.size_alloc] at this
    exact (Below.heap_alloc _ _ _ (by simp)).trans this
  · have := World.alloc_heap_new ((W.alloc (Obj.cells #[Value.func (Fn.yield lo) #[] #[]] 31)).alloc (Obj.cells (intsA (List.replicate n 0)) 3)) (Obj.cells #[Value.slice (some { block := W.heap.size + 1, off := 0 }) n n] 29)
    rwa [World.size_alloc, World.size_alloc] at this
  · exact (((Below.refl _ W).alloc (Nat.le_refl _) _).alloc (by simp) _).alloc (by simp; omega) _
theorem Og.cell {W X : World} {n lo k : Nat} (h : Og W n lo (rowK n k) X) (hk : k < n) : X.cell? ⟨W.heap.size + 1, k, none⟩ = some (.int .i64 0) := by
  apply cell_of h.rb
  have : (rowK n k)[k]? = some 0 := by simp [rowK, List.getElem?_append_right, show 0 < n - k by omega]
  simp [intsA, this]
theorem Og.frozen {W X : World} {n lo : Nat} {l : List Nat} (h : Og W n lo l X) (k : Nat) : X.frozen? ⟨W.heap.size + 1, k, none⟩ = false := by simp [World.frozen?, h.rb]
theorem Og.next {W X : World} {n lo k : Nat} (h : Og W n lo (rowK n k) X) (hk : k < n) : Og W n lo (rowK n (k + 1)) (X.setCell ⟨W.heap.size + 1, k, none⟩ (.int .i64 k)) := by
  have ne : ∀ j, j ≠ W.heap.size + 1 → (X.setCell ⟨W.heap.size + 1, k, none⟩ (.int .i64 k)).heap[j]? = X.heap[j]? := fun j hj => Below.heap_setCell _ _ _ _ hj
  refine ⟨(ne _ (by omega)).trans h.yb, ?_, (ne _ (by omega)).trans h.hb, by rw [World.size_setCell]; exact h.sz, h.bl.setCell (by simp) _⟩
  rw [← rowK_next hk]
  obtain ⟨hlt, hk'⟩ := Array.getElem?_eq_some_iff.1 h.rb
  show (X.heap.modify (W.heap.size + 1) _)[W.heap.size + 1]? = _
  rw [Array.getElem?_eq_getElem (by rw [Array.size_modify]; exact hlt), Array.getElem_modify_self, hk']
  simp [intsA, List.map_set]

set_option maxRecDepth 100000 in
set_option maxHeartbeats 4000000 in
theorem orders_low (n bn n0 m0 : Nat) (hn7 : n ≤ 7) (hn0 : n0 ≤ bn) (w0 : World) (hbn : bn < w0.heap.size) (hcell : w0.heap[bn]? = some (.cells #[.int .i64 n] 3 (0, 0))) :
    SeqLow Fence.wide (m0 + 1 + n + 1) m0 n0 Try.prog 102 #[.pointer (some ⟨bn, 0, none⟩)] (RowO n) (orders n) w0 := by
  intro lo J W hbW hJ hY hj
  have hbW0 := hbW.size
  have hcW : W.heap[bn]? = some (.cells #[.int .i64 n] 3 (0, 0)) := (hbW.block bn hbn).trans hcell
  have HY := Lib.hid hY
  have HJ := Lib.hid hj
  have HJJ := Lib.hid hJ
  have HCW := Lib.hid hcW
  have c1 : (W.alloc (.cells #[.func (.yield lo) #[] #[]] 31)).cell? ⟨bn, 0, none⟩ = some (.int .i64 n) := cell_of ((Below.heap_alloc _ _ _ (by omega)).trans hcW) rfl
  obtain ⟨j0, hj0, hy0, hy1, hy2⟩ := info_parts Try.infoInt
  have hn1 : 1 ≤ m0 + 1 + n + 1 := by omega
  clear hJ hY hj hcW
  refine callsIn_of_wp Try.func102 rfl trivial ?_ rfl
  simp only [Try.ntmps102, List.size_toArray, List.length_cons, List.length_nil, Nat.reduceAdd, Nat.reduceSub, Array.replicate_succ, Array.replicate_zero, List.push_toArray, List.append_toArray, List.nil_append, List.cons_append]
  gi_wp2_with (gi_at_make; refine wpListIn_make_at _ rfl _ _ 29 rfl 3 j0 (.int .i64 0) Try.underlying29 hj0 hy0 .i64 .i64 n rfl rfl (by rw [hy2]; omega) (by unfold maxLen; omega) ?_; rw [hy1, zeros_row])
  have A0 := Lib.hid (Og.start W n lo)
  gi_loopw [10] (fun iv wr => ∃ k : Nat, k ≤ n ∧ iv = .int .i64 k ∧ Og W n lo (rowK n k) wr) (fun iv _ => n - (intOf iv).toNat)
  case atStart => exact ⟨0, Nat.zero_le _, rfl, A0.out⟩
  case round =>
    obtain ⟨k, hk, rfl, hog⟩ := hrel
    by_cases hlt : k < n
    · have hlt' : (k : Int) < (n : Int) := by omega
      have c3 : wr.cell? ⟨W.heap.size + 1 + 1, 0, none⟩ = some (.slice (some ⟨W.heap.size + 1, 0, none⟩) n n) := cell_of hog.hb rfl
      have rk := hog.cell hlt
      have fk := hog.frozen k
      have HN := Lib.hid (hog.next hlt)
      clear hog A0 c1
      gi_wp2
      exact ⟨⟨k + 1, by omega, by go_num, HN.out⟩, by simp [intOf]; omega⟩
    · have e : k = n := by omega
      subst e
      have HO := Lib.hid hog
      clear hog A0 c1
      gi_wp2
      have hsz := HO.out.sz
      have hrb := HO.out.rb
      rw [show rowK k k = List.range k by simp [rowK]] at hrb
      have hba : ∀ {o : Obj}, Below W.heap.size wr (wr.alloc o) := fun {o} => (Below.refl _ wr).alloc (by omega) _
      rw [hsz]
      have ST : St k bn W.heap.size lo (wr.alloc (.cells #[.func (.func 103) #[] (capsV bn W.heap.size)] 87)) (List.range k) := by
        refine ⟨?_, ?_, ?_, ?_, ?_⟩
        · exact (Below.heap_alloc _ _ _ (by omega)).trans ((HO.out.bl.block _ (by omega)).trans HCW.out)
        · exact (Below.heap_alloc _ _ _ (by omega)).trans HO.out.yb
        · exact (Below.heap_alloc _ _ _ (by omega)).trans hrb
        · exact (Below.heap_alloc _ _ _ (by omega)).trans HO.out.hb
        · have := World.alloc_heap_new wr (.cells #[.func (.func 103) #[] (capsV bn W.heap.size)] 87)
          rwa [hsz] at this
      have C := from_in Fence.wide trivial rfl k bn W.heap.size lo n0 m0 hn7 (by omega) hn0 J HJJ.out _ HY.out k 0 (List.range k) [] _ (by rw [orders, pF_len]; simp) (by omega) (by simp) (by simp) (by rw [World.size_alloc]; omega) ST (HJJ.out _ _ _ (HO.out.bl.trans hba) HJ.out)
      refine ⟨trivial, CallsIn.mono C ?_⟩
      rintro e W4 ⟨rfl, hj4, _, _⟩
      have HJ4 := Lib.hid hj4
      clear hj4 C ST hsz hrb hba
      gi_wp2
      exact bodyPost_end (results_none rfl _ _ _) rfl ⟨⟨_, rfl⟩, HJ4.out⟩

end Go.Proofs.Ytaakefjblldccaa
