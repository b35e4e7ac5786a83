/- Texts of this claim, laid together: TdSq, TdPl. -/
import Derived.Test.YtdfkaijeppdhaaaGreatDoorZHq01
import Derived.Test.YtdfkaijeppdhaaaGreatDoorZHq19
import Derived.RangeFuncBox
import Derived.RangeFuncNested
import Derived.RangeFuncLeaves
import Derived.Shelf.Abstract
import Derived.WalkKit
import Derived.OwnWalkIn
import Derived.TacticsInMore
import Derived.LoopNIn
import Derived.LoopIn
import Derived.KernelRfl
import Derived.Lib.Hide
import Derived.Test.YtdfkaijeppdhaaaGreatDoorZHq20
import Derived.Lib.AtoiAll

/- Contract: strings.SplitSeq at a separator of one byte. -/
namespace Go.Proofs.YtdfkaijeppdhaaaGreatDoor.Td
open Go.RowKit Go.Shelf
attribute [local go_sem] Oper.semAt_some
/-- The pieces of a list of bytes between the bytes c. -/
def splitC (c : UInt8) : List UInt8 → List (List UInt8)
  | [] => [[]]
  | b :: r => if b == c then [] :: splitC c r else match splitC c r with
    | [] => [[b]]
    | x :: xs => (b :: x) :: xs
theorem splitC_idx (c : UInt8) : ∀ l : List UInt8, (Lib.indexByte l c = -1 ∧ splitC c l = [l]) ∨ (∃ i : Nat, Lib.indexByte l c = i ∧ i < l.length ∧ splitC c l = l.take i :: splitC c (l.drop (i + 1)))
  | [] => .inl ⟨rfl, rfl⟩
  | b :: r => by
    by_cases h : b = c
    · subst h
      exact .inr ⟨0, by simp [Lib.indexByte], by simp, by simp [splitC]⟩
    · have hb : (b == c) = false := by simpa using h
      rcases splitC_idx c r with ⟨h1, h2⟩ | ⟨i, h1, h2, h3⟩
      · exact .inl ⟨by simp [Lib.indexByte, hb, h1], by simp [splitC, hb, h2]⟩
      · refine .inr ⟨i + 1, ?_, by simp [h2], ?_⟩
        · unfold Lib.indexByte
          rw [hb, h1]
          have : ((i : Int) == -1) = false := by simp
          simp [this]
        · rw [show splitC c (b :: r) = match splitC c r with | [] => [[b]] | x :: xs => (b :: x) :: xs by simp [splitC, hb], h3]
          simp

/-- The pieces of a string. -/
def splitA (c : UInt8) (s : ByteArray) : List ByteArray := (splitC c s.data.toList).map fun l => ⟨l.toArray⟩
theorem ba_ext {s t : ByteArray} (h : s.data.toList = t.data.toList) : s = t := by
  cases s; cases t
  simp only [ByteArray.mk.injEq]
  exact Array.toList_inj.1 h
theorem ba_take (s : ByteArray) (i : Nat) : s.extract 0 i = ⟨(s.data.toList.take i).toArray⟩ := by
  apply ba_ext
  simp [ByteArray.data_extract]
theorem ba_drop (s : ByteArray) (i : Nat) : s.extract i s.size = ⟨(s.data.toList.drop i).toArray⟩ := by
  apply ba_ext
  simp only [ByteArray.data_extract, Array.toList_extract, List.extract_eq_take_drop]
  rw [List.take_of_length_le]
  simp
theorem splitA_idx (c : UInt8) (s : ByteArray) : (Lib.indexByte s.data.toList c = -1 ∧ splitA c s = [s]) ∨
    (∃ i : Nat, Lib.indexByte s.data.toList c = i ∧ i < s.size ∧ splitA c s = s.extract 0 i :: splitA c (s.extract (i + 1) s.size)) := by
  rcases splitC_idx c s.data.toList with ⟨h1, h2⟩ | ⟨i, h1, h2, h3⟩
  · refine .inl ⟨h1, ?_⟩
    unfold splitA
    rw [h2]
    simp
  · refine .inr ⟨i, h1, by simpa using h2, ?_⟩
    unfold splitA
    rw [h3, ba_take, ba_drop]
    simp

/-- The blocks of the iterator: the separator, the string that is left, how much of the separator is kept. -/
structure SqAt (bs : Nat) (c : UInt8) (s : ByteArray) (X : World) : Prop where
  s : X.heap[bs]? = some (.cells #[.string s] 9 (0, 0))
  sep : X.heap[bs + 1]? = some (.cells #[.string ⟨#[c]⟩] 9 (0, 0))
  sv : X.heap[bs + 2]? = some (.cells #[.int .i64 0] 3 (0, 0))

def sqK (bs : Nat) (k : Nat) : Prop := k = bs ∨ k = bs + 1 ∨ k = bs + 2
def sqS (bs : Nat) (k : Nat) : Prop := k = bs

theorem SqAt.kept {bs : Nat} {c : UInt8} {s : ByteArray} {X X' : World} (h : SqAt bs c s X) (hk : ∀ k, sqK bs k → X'.heap[k]? = X.heap[k]?) : SqAt bs c s X' :=
  ⟨(hk _ (.inl rfl)).trans h.s, (hk _ (.inr (.inl rfl))).trans h.sep, (hk _ (.inr (.inr rfl))).trans h.sv⟩
theorem SqAt.set {bs : Nat} {c : UInt8} {s : ByteArray} {X : World} (h : SqAt bs c s X) (t : ByteArray) : SqAt bs c t (X.setCell ⟨bs, 0, none⟩ (.string t)) := by
  refine ⟨?_, (Below.heap_setCell _ _ _ _ (by show bs + 1 ≠ bs; omega)).trans h.sep, (Below.heap_setCell _ _ _ _ (by show bs + 2 ≠ bs; omega)).trans h.sv⟩
  obtain ⟨hlt, hk⟩ := Array.getElem?_eq_some_iff.1 h.s
  show (X.heap.modify bs _)[bs]? = _
  rw [Array.getElem?_eq_getElem (by rw [Array.size_modify]; exact hlt), Array.getElem_modify_self, hk]
  simp
theorem heap_cell {X : World} {b j : Nat} {A : Array Value} {T : TypeId} {fr : Nat × Nat} {v : Value} (h : X.heap[b]? = some (.cells A T fr)) (hj : A[j]? = some v) : X.cell? ⟨b, j, none⟩ = some v := by
  simp [World.cell?, h, hj]

/-- How many bytes are left. -/
def sqLeft (bs : Nat) (X : World) : Nat := match X.heap[bs]? with
  | some (Obj.cells A _ _) => match A[0]? with
    | some (Value.string s) => s.size
    | _ => 0
  | _ => 0
theorem sqLeft_eq {bs : Nat} {c : UInt8} {s : ByteArray} {X : World} (h : SqAt bs c s X) : sqLeft bs X = s.size := by
  unfold sqLeft; rw [h.s]; rfl

theorem pre_snoc {α : Type} (p : List α) (x : α) (r : List α) : p ++ [x] <+: p ++ x :: r := ⟨r, by simp⟩
set_option maxRecDepth 100000 in
set_option maxHeartbeats 4000000 in
theorem splitSeq1_in (n : Nat) (hn : 1 ≤ n) (bs : Nat) (c : UInt8) (s : ByteArray) (hs : s.size ≤ 9223372036854775806) :
    SeqOwn Fence.wide n Tryz.prog 245 #[.pointer (some ⟨bs + 1, 0, none⟩), .pointer (some ⟨bs, 0, none⟩), .pointer (some ⟨bs + 2, 0, none⟩)] Value.string (sqS bs) (sqK bs) (SqAt bs c s) (splitA c s) := by
  intro l J Jx W hJ hY hSt h0
  obtain ⟨xs, hxs⟩ : ∃ xs, xs = splitA c s := ⟨_, rfl⟩
  rw [← hxs] at hY ⊢
  have c1 : W.cell? ⟨bs + 1, 0, none⟩ = some (.string ⟨#[c]⟩) := heap_cell hSt.sep rfl
  have hz : (1 : Int) ≠ 0 := by decide
  refine callsIn_of_wp Tryz.func245 rfl trivial ?_ rfl
  simp only [Tryz.ntmps245, List.size_toArray, List.length_cons, List.length_nil, Nat.reduceAdd, Nat.reduceSub, Array.replicate_succ, Array.replicate_zero, List.push_toArray, List.append_toArray, List.nil_append, List.cons_append]
  have HST := Lib.hid hSt
  have H0 := Lib.hid h0
  have HXS := Lib.hid hxs
  have HY := Lib.hid hY
  have HJ := Lib.hid hJ
  clear hSt h0 hxs hY hJ
  gi_wp2
  gi_loopw [7, 8] (fun i f wr => ∃ (pre : List ByteArray) (r : ByteArray), r.size ≤ s.size ∧ Hid (xs = pre ++ splitA c r) ∧ Hid (J pre wr) ∧ Hid (SqAt bs c r wr)) (fun _ _ wr => sqLeft bs wr)
  case atStart => exact ⟨[], s, Nat.le_refl _, HXS, H0, HST⟩
  case round =>
    obtain ⟨pre, r, hr, hx, hj, hst⟩ := hrel
    have d1 : wr.cell? ⟨bs + 1, 0, none⟩ = some (.string ⟨#[c]⟩) := heap_cell hst.out.sep rfl
    have d2 : wr.cell? ⟨bs, 0, none⟩ = some (.string r) := heap_cell hst.out.s rfl
    have d3 : wr.cell? ⟨bs + 2, 0, none⟩ = some (.int .i64 0) := heap_cell hst.out.sv rfl
    have d4 : wr.frozen? ⟨bs, 0, none⟩ = false := by simp [World.frozen?, hst.out.s]
    rcases splitA_idx c r with ⟨hi, he⟩ | ⟨i, hi, hlt, he⟩
    · gi_wp2_with fail
      refine ⟨trivial, callsIn_wide.2 ((Tryz.strings_Index_one r c wr).mono ?_)⟩
      rintro e w' ⟨rfl, rfl⟩
      rw [hi]
      obtain ⟨fn, tmps, assign, body, hy, hR⟩ := HY.out pre r w' (by rw [hx.out, he]; exact List.prefix_refl _) hj.out
      gi_wp2
      refine hR.mono ?_
      rintro e W3 (⟨rfl, hJ3, hk3⟩ | ⟨rfl, hJx3⟩)
      · gi_wp2
        go_end0
        exact ⟨⟨_, rfl⟩, .inl (by rw [hx.out, he]; exact hJ3)⟩
      · gi_wp2
        go_end0
        exact ⟨⟨_, rfl⟩, .inr ⟨_, by rw [hx.out, he]; exact List.prefix_refl _, hJx3⟩⟩
    · gi_wp2_with fail
      refine ⟨trivial, callsIn_wide.2 ((Tryz.strings_Index_one r c wr).mono ?_)⟩
      rintro e w' ⟨rfl, rfl⟩
      rw [hi]
      obtain ⟨fn, tmps, assign, body, hy, hR⟩ := HY.out pre (r.extract 0 i) w' (by rw [hx.out, he]; exact pre_snoc _ _ _) hj.out
      gi_wp2
      refine hR.mono ?_
      rintro e W3 (⟨rfl, hJ3, hk3⟩ | ⟨rfl, hJx3⟩)
      · have hst3 := hst.out.kept hk3
        have d1 : W3.cell? ⟨bs + 1, 0, none⟩ = some (.string ⟨#[c]⟩) := heap_cell hst3.sep rfl
        have d2 : W3.cell? ⟨bs, 0, none⟩ = some (.string r) := heap_cell hst3.s rfl
        have d4 : W3.frozen? ⟨bs, 0, none⟩ = false := by simp [World.frozen?, hst3.s]
        gi_wp2
        go_roundw
        case rel => exact ⟨pre ++ [r.extract 0 i], r.extract (i + 1) r.size, by simp; omega, Lib.hid (by rw [hx.out, he]; simp), Lib.hid (HJ.out _ _ _ (turned_setCell _ _ _ _ rfl) hJ3), Lib.hid (hst3.set _)⟩
        case measure => rw [sqLeft_eq (hst3.set _), sqLeft_eq hst.out]; simp; omega
      · gi_wp2
        refine bodyPost_ret (results_none rfl _ _ _) rfl ?_
        exact ⟨⟨_, rfl⟩, .inr ⟨_, by rw [hx.out, he]; exact pre_snoc _ _ _, hJx3⟩⟩

set_option maxHeartbeats 1000000 in
/-- strings.SplitSeq: the closure over three new blocks. -/
theorem splitSeq_any (s : ByteArray) (c : UInt8) (w : World) :
    Calls Tryz.prog 193 #[.string s, .string ⟨#[c]⟩] w fun e w' => e = .returned (.func (.func 245) #[] #[.pointer (some ⟨w.heap.size + 1, 0, none⟩), .pointer (some ⟨w.heap.size, 0, none⟩), .pointer (some ⟨w.heap.size + 2, 0, none⟩)]) ∧
      w' = ((w.alloc (.cells #[.string s] 9)).alloc (.cells #[.string ⟨#[c]⟩] 9)).alloc (.cells #[.int .i64 0] 3) := by
  go_enter Tryz.func193, Tryz.ntmps193
  go_wp2
  go_ret
  exact ⟨rfl, rfl⟩
theorem sqAt_new (s : ByteArray) (c : UInt8) (w : World) :
    SqAt w.heap.size c s (((w.alloc (.cells #[.string s] 9)).alloc (.cells #[.string ⟨#[c]⟩] 9)).alloc (.cells #[.int .i64 0] 3)) := by
  refine ⟨(Below.heap_alloc _ _ _ (by simp; omega)).trans ((Below.heap_alloc _ _ _ (by simp)).trans (World.alloc_heap_new w _)), ?_, ?_⟩
  · have := World.alloc_heap_new (w.alloc (.cells #[.string s] 9)) (.cells #[.string ⟨#[c]⟩] 9)
    rw [World.size_alloc] at this
    exact (Below.heap_alloc _ _ _ (by simp)).trans this
  · have := World.alloc_heap_new ((w.alloc (.cells #[.string s] 9)).alloc (.cells #[.string ⟨#[c]⟩] 9)) (.cells #[.int .i64 0] 3)
    rw [World.size_alloc, World.size_alloc] at this
    exact this
theorem SqAt.below {bs : Nat} {c : UInt8} {s : ByteArray} {X X' : World} (h : SqAt bs c s X) (hb : Below X.heap.size X X') : SqAt bs c s X' := by
  have lt : ∀ {k o}, X.heap[k]? = some o → k < X.heap.size := fun h => (Array.getElem?_eq_some_iff.1 h).1
  exact ⟨(hb.block _ (lt h.s)).trans h.s, (hb.block _ (lt h.sep)).trans h.sep, (hb.block _ (lt h.sv)).trans h.sv⟩
end Go.Proofs.YtdfkaijeppdhaaaGreatDoor.Td

/- Plain: the tide of a text, as the program reads it and as the reference does. -/
namespace Go.Proofs.YtdfkaijeppdhaaaGreatDoor.Td
open Go.RowKit Go.Shelf
/-- A number as the program reads it; none: an error. -/
def numP (s : ByteArray) : Option Int := match Lib.atoiAll s.data.toList with
  | .ok n => some n
  | _ => none
/-- All of a list, or none. -/
def allS {α β : Type} (f : α → Option β) : List α → Option (List β)
  | [] => some []
  | x :: xs => match f x, allS f xs with
    | some y, some ys => some (y :: ys)
    | _, _ => none
theorem allS_snoc {α β : Type} (f : α → Option β) (xs : List α) (x : α) : allS f (xs ++ [x]) = match allS f xs, f x with
    | some ys, some y => some (ys ++ [y])
    | _, _ => none := by
  induction xs with
  | nil => simp only [List.nil_append, allS]; cases f x <;> rfl
  | cons z zs ih =>
    rw [List.cons_append, allS, ih]
    cases h1 : f z <;> cases h2 : allS f zs <;> cases h3 : f x <;> simp [allS, h1, h2]
theorem allS_bad {α β : Type} (f : α → Option β) (xs : List α) {x : α} (hx : x ∈ xs) (h : f x = none) : allS f xs = none := by
  induction xs with
  | nil => simp at hx
  | cons z zs ih =>
    rcases List.mem_cons.1 hx with rfl | hx
    · simp [allS, h]
    · rw [allS, ih hx]; cases f z <;> rfl
theorem allS_len {α β : Type} (f : α → Option β) : ∀ (xs : List α) (ys : List β), allS f xs = some ys → ys.length = xs.length
  | [], ys, h => by simp only [allS, Option.some.injEq] at h; subst h; rfl
  | x :: xs, ys, h => by
    rw [allS] at h
    cases h1 : f x <;> cases h2 : allS f xs <;> simp [h1, h2] at h
    subst h
    simp [allS_len f xs _ h2]

def wavP (s : ByteArray) : Option (List Int) := allS numP (splitA 44 s)
def rawP (s : ByteArray) : Option (List (List Int)) := allS wavP (splitA 59 s)
/-- What the program's Parse finds. -/
def parP (s : ByteArray) : Option (List (List Int)) := if 240 < s.size then none else match rawP s with
  | none => none
  | some t => if vld t && decide (texL t = s.data.toList) then some t else none

end Go.Proofs.YtdfkaijeppdhaaaGreatDoor.Td
